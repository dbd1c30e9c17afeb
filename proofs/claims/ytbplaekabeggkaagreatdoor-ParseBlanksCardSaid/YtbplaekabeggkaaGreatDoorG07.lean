/- PROVED: the law ParseBlanks of layer 4 answers true for every string, as its given card says (the listed package variables as the program lays them); no other condition. The parser, the lexer and the writer of the awake test are walked whole. Text 7 of 16. -/
import Derived.Test.YtbplaekabeggkaaGreatDoorG06
set_option linter.unusedSimpArgs false
set_option linter.unusedVariables false
namespace Go.Proofs.YtbplaekabeggkaaGreatDoor
open Go.RowKit

theorem Blk.three {w : World} {b : Nat} {x y z : Value} {t : TypeId} (h : Blk w b #[x, y, z] t) : w.cell? ⟨b, 0, none⟩ = some x ∧ w.cell? ⟨b, 1, none⟩ = some y ∧ w.cell? ⟨b, 2, none⟩ = some z := ⟨h.cell 0, h.cell 1, h.cell 2⟩
set_option maxRecDepth 100000 in
set_option maxHeartbeats 4000000 in
theorem simple_c {k : Nat} {toks : List Tok} {en : Int} {br lim pos dep : Nat} {w : World} (hP : CPostfix k) (hE : CExpr k) (hB : CBrackets k) (hR : Rdr toks en br lim pos dep w) (hd : dep ≤ 40) (r : Res T) (hq : pSimple k toks en dep pos = some r) :
    Calls Tryz.prog 182 #[.pointer (some ⟨br, 0, none⟩)] w (PostN toks en br lim dep w r) := by
  have hlim := hR.limle
  have hbr := hR.lt
  have htl := hR.text pos
  unfold pSimple at hq
  dsimp only at hq
  have D := hR
  have Dm := D.limle
  have K := Kp.refl w.heap.size [br] w
  clear hR
  by_cases cp : isTok (tokAt toks en pos) kPrint = true
  · rw [if_pos cp] at hq
    have hp := isTok_lt cp
    cases hY : pBrackets k toks en dep (pos + 1) with
    | none => rw [hY] at hq; cases hq
    | some y =>
    rw [hY] at hq
    have HX := fun w1 (h1 : Rdr toks en br lim (pos + 1) dep w1) => hB toks en br lim (pos + 1) dep w1 y h1 hd hY
    clear hY hE hB hP
    go_enter Tryz.func182, Tryz.ntmps182
    go_wp2_with fail
    refine ((is_c (pos := pos) (dep := dep) (toks := toks) (en := en) (lim := lim) (rda) ⟨#[112,114,105,110,116]⟩).mono ?_)
    rw [mk_toList, show isTok _ (#[112,114,105,110,116] : Array UInt8).toList = true from cp]
    rintro e w1 ⟨rfl, hk1⟩
    have z1 := hk1.size
    try simp at z1
    replace D : Rdr toks en br lim pos dep w1 := rda
    replace Dm := D.limle
    replace R : Loc w1 w.heap.size (.pointer none) 30 := loca
    replace Rc := R.cell
    replace Rl := R.lt
    have Rl_w1 := Rl
    replace Rf := R.frozen
    replace K : Kp w.heap.size [br] w w1 := kpa
    replace Kz := K.size
    have Kz_w1 := Kz
    clear hk1
    go_wp2_with fail
    refine (take_c D hp).mono ?_
    rintro e w2 ⟨rfl, D2, hk2⟩
    have z2 := hk2.size
    try simp at z2
    replace R : Loc w2 w.heap.size (.pointer none) 30 := loca
    replace Rc := R.cell
    replace Rl := R.lt
    have Rl_w2 := Rl
    replace Rf := R.frozen
    replace K : Kp w.heap.size [br] w w2 := kpa
    replace Kz := K.size
    have Kz_w2 := Kz
    clear hk2 D
    have D := D2
    clear D2
    replace Dm := D.limle
    go_wp2_with fail
    refine (HX _ D).mono ?_
    cases y with
    | stop a er =>
      cases hq
      rintro e w3 ⟨rfl, hk3⟩
      have z3 := hk3.size
      try simp at z3
      go_wp2
      exact ⟨rfl, rfl, kpa⟩
    | ok t p2 =>
      cases hq
      rintro e w3 ⟨b3, rfl, hT3, D3, hk3⟩
      have z3 := hk3.size
      try simp at z3
      have T3 : TreeAt w3 w2.heap.size w3.heap.size b3 t := ⟨Nat.le_refl _, hT3⟩
      clear D
      replace R : Loc w3 w.heap.size (.pointer none) 30 := loca
      replace Rc := R.cell
      replace Rl := R.lt
      have Rl_w3 := Rl
      replace Rf := R.frozen
      replace K : Kp w.heap.size [br] w w3 := kpa
      replace Kz := K.size
      have Kz_w3 := Kz
      clear hk3
      go_wp2_with fail
      refine (plain_c _ _ _ _ _ _).mono ?_
      rintro e w4 ⟨rfl, s4, c4, hk4⟩
      have z4 := hk4.size
      try simp at s4
      try simp at z4
      try simp at c4
      have B4 := Blk.mk c4
      have z4' := Nat.le_of_eq s4.symm
      clear s4 c4
      have G4 : Blk w4 w3.heap.size #[ptrV b3] 30 := bka
      have D4 : Rdr toks en br lim p2 dep w4 := rda
      replace R : Loc w4 w.heap.size (.pointer none) 30 := loca
      replace Rc := R.cell
      replace Rl := R.lt
      have Rl_w4 := Rl
      replace Rf := R.frozen
      replace T3 : TreeAt w4 w2.heap.size w3.heap.size b3 t := tra
      replace T3m := T3.le
      replace K : Kp w.heap.size [br] w w4 := kpa
      replace Kz := K.size
      have Kz_w4 := Kz
      clear hk4
      go_wp2
      refine bodyPost_ret (v := .agg #[ptrV (w3.heap.size + 1 + 1)]) (by simp [results, Tryz.results182, go_sem, *]) rfl ?_
      refine ⟨_, rfl, ?_, rda, kpa⟩
      refine IsX.isT _ _ (IsX.built (g := w3.heap.size) (name := []) (typ := []) (ex := []) (bs := [b3]) (ts := [t]) ?_ ?_ (by simp) ?_ ?_ (by simp) ?_ (by simp) ?_ ⟨IsX.frame ?_ ?_ (by simp) (fun k hk hk' hx => Kp.block (n := w3.heap.size) (S := [w.heap.size]) ?_ k hk' (by simp; omega)) _ _ (IsT.isX (ex := []) (Nat.le_refl _) (Nat.le_refl _) (by simp) _ _ T3.tr), trivial⟩)
      · exact sza
      · exact sza
      · exact sza
      · exact sza
      · exact Blk.blk (t := 30) (bka)
      · exact Blk.blk (t := 108) (bka)
      · exact sza
      · exact sza
      · exact kpa
  rw [if_neg cp] at hq
  rw [Bool.not_eq_true] at cp
  by_cases cr : isTok (tokAt toks en pos) kReturn = true
  · rw [if_pos cr] at hq
    have hp := isTok_lt cr
    by_cases cs : isTok (tokAt toks en (pos + 1)) kSemi = true
    · rw [if_pos cs] at hq
      cases hq
      clear hE hB hP
      go_enter Tryz.func182, Tryz.ntmps182
      go_wp2_with fail
      refine ((is_c (pos := pos) (dep := dep) (toks := toks) (en := en) (lim := lim) (rda) ⟨#[112,114,105,110,116]⟩).mono ?_)
      rw [mk_toList, show isTok _ (#[112,114,105,110,116] : Array UInt8).toList = false from cp]
      rintro e w1 ⟨rfl, hk1⟩
      have z1 := hk1.size
      try simp at z1
      replace D : Rdr toks en br lim pos dep w1 := rda
      replace Dm := D.limle
      replace R : Loc w1 w.heap.size (.pointer none) 30 := loca
      replace Rc := R.cell
      replace Rl := R.lt
      have Rl_w1 := Rl
      replace Rf := R.frozen
      replace K : Kp w.heap.size [br] w w1 := kpa
      replace Kz := K.size
      have Kz_w1 := Kz
      clear hk1
      go_wp2_with fail
      refine ((is_c (pos := pos) (dep := dep) (toks := toks) (en := en) (lim := lim) (rda) ⟨#[114,101,116,117,114,110]⟩).mono ?_)
      rw [mk_toList, show isTok _ (#[114,101,116,117,114,110] : Array UInt8).toList = true from cr]
      rintro e w2 ⟨rfl, hk2⟩
      have z2 := hk2.size
      try simp at z2
      replace D : Rdr toks en br lim pos dep w2 := rda
      replace Dm := D.limle
      replace R : Loc w2 w.heap.size (.pointer none) 30 := loca
      replace Rc := R.cell
      replace Rl := R.lt
      have Rl_w2 := Rl
      replace Rf := R.frozen
      replace K : Kp w.heap.size [br] w w2 := kpa
      replace Kz := K.size
      have Kz_w2 := Kz
      clear hk2
      go_wp2_with fail
      refine (take_c D hp).mono ?_
      rintro e w3 ⟨rfl, D3, hk3⟩
      have z3 := hk3.size
      try simp at z3
      replace R : Loc w3 w.heap.size (.pointer none) 30 := loca
      replace Rc := R.cell
      replace Rl := R.lt
      have Rl_w3 := Rl
      replace Rf := R.frozen
      replace K : Kp w.heap.size [br] w w3 := kpa
      replace Kz := K.size
      have Kz_w3 := Kz
      clear hk3 D
      have D := D3
      clear D3
      replace Dm := D.limle
      go_wp2_with fail
      refine (plain_c _ _ _ _ _ _).mono ?_
      rintro e w4 ⟨rfl, s4, c4, hk4⟩
      have z4 := hk4.size
      try simp at s4
      try simp at z4
      try simp at c4
      have B := Blk.mk c4
      have z4' := Nat.le_of_eq s4.symm
      clear s4 c4
      have Bl := B.lt
      replace D : Rdr toks en br lim (pos + 1) dep w4 := rda
      replace Dm := D.limle
      replace R : Loc w4 w.heap.size (.pointer none) 30 := loca
      replace Rc := R.cell
      replace Rl := R.lt
      have Rl_w4 := Rl
      replace Rf := R.frozen
      replace K : Kp w.heap.size [br] w w4 := kpa
      replace Kz := K.size
      have Kz_w4 := Kz
      clear hk4
      go_wp2_with fail
      refine ((is_c (pos := pos + 1) (dep := dep) (toks := toks) (en := en) (lim := lim) (rda) ⟨#[59]⟩).mono ?_)
      rw [mk_toList, show isTok _ (#[59] : Array UInt8).toList = true from cs]
      rintro e w5 ⟨rfl, hk5⟩
      have z5 := hk5.size
      try simp at z5
      replace D : Rdr toks en br lim (pos + 1) dep w5 := rda
      replace Dm := D.limle
      replace R : Loc w5 w.heap.size (.pointer none) 30 := loca
      replace Rc := R.cell
      replace Rl := R.lt
      have Rl_w5 := Rl
      replace Rf := R.frozen
      replace B : Blk w5 (w3.heap.size + 1) #[.int .i64 13, .string ⟨#[]⟩, .string ⟨#[]⟩, .int .i64 0, .int .i64 (tokAt toks en pos).at_, .slice none 0 0] 108 := bka
      replace Bl := B.lt
      replace L : Loc w5 w4.heap.size (ptrV (w3.heap.size + 1)) 30 := loca
      replace Lc := L.cell
      replace Ll := L.lt
      have Ll_w5 := Ll
      replace Lf := L.frozen
      replace K : Kp w.heap.size [br] w w5 := kpa
      replace Kz := K.size
      have Kz_w5 := Kz
      clear hk5
      go_wp2
      refine bodyPost_ret (v := .agg #[ptrV (w3.heap.size + 1)]) (by simp [results, Tryz.results182, go_sem, *]) rfl ?_
      refine ⟨_, rfl, ?_, rda, kpa⟩
      exact IsX.isT _ _ (IsX.leaf (name := []) (typ := []) (ex := []) (by omega) (by simp; omega) (by simp) (Blk.blk (t := 108) (bka)))
    · rw [if_neg cs] at hq
      rw [Bool.not_eq_true] at cs
      cases hY : pExpr k toks en dep 1 (pos + 1) with
      | none => rw [hY] at hq; cases hq
      | some y =>
      rw [hY] at hq
      have HX := fun w1 (h1 : Rdr toks en br lim (pos + 1) dep w1) => hE toks en br lim (pos + 1) dep 1 w1 y h1 hd (by omega) hY
      clear hY hE hB hP
      go_enter Tryz.func182, Tryz.ntmps182
      go_wp2_with fail
      refine ((is_c (pos := pos) (dep := dep) (toks := toks) (en := en) (lim := lim) (rda) ⟨#[112,114,105,110,116]⟩).mono ?_)
      rw [mk_toList, show isTok _ (#[112,114,105,110,116] : Array UInt8).toList = false from cp]
      rintro e w1 ⟨rfl, hk1⟩
      have z1 := hk1.size
      try simp at z1
      replace D : Rdr toks en br lim pos dep w1 := rda
      replace Dm := D.limle
      replace R : Loc w1 w.heap.size (.pointer none) 30 := loca
      replace Rc := R.cell
      replace Rl := R.lt
      have Rl_w1 := Rl
      replace Rf := R.frozen
      replace K : Kp w.heap.size [br] w w1 := kpa
      replace Kz := K.size
      have Kz_w1 := Kz
      clear hk1
      go_wp2_with fail
      refine ((is_c (pos := pos) (dep := dep) (toks := toks) (en := en) (lim := lim) (rda) ⟨#[114,101,116,117,114,110]⟩).mono ?_)
      rw [mk_toList, show isTok _ (#[114,101,116,117,114,110] : Array UInt8).toList = true from cr]
      rintro e w2 ⟨rfl, hk2⟩
      have z2 := hk2.size
      try simp at z2
      replace D : Rdr toks en br lim pos dep w2 := rda
      replace Dm := D.limle
      replace R : Loc w2 w.heap.size (.pointer none) 30 := loca
      replace Rc := R.cell
      replace Rl := R.lt
      have Rl_w2 := Rl
      replace Rf := R.frozen
      replace K : Kp w.heap.size [br] w w2 := kpa
      replace Kz := K.size
      have Kz_w2 := Kz
      clear hk2
      go_wp2_with fail
      refine (take_c D hp).mono ?_
      rintro e w3 ⟨rfl, D3, hk3⟩
      have z3 := hk3.size
      try simp at z3
      replace R : Loc w3 w.heap.size (.pointer none) 30 := loca
      replace Rc := R.cell
      replace Rl := R.lt
      have Rl_w3 := Rl
      replace Rf := R.frozen
      replace K : Kp w.heap.size [br] w w3 := kpa
      replace Kz := K.size
      have Kz_w3 := Kz
      clear hk3 D
      have D := D3
      clear D3
      replace Dm := D.limle
      go_wp2_with fail
      refine (plain_c _ _ _ _ _ _).mono ?_
      rintro e w4 ⟨rfl, s4, c4, hk4⟩
      have z4 := hk4.size
      try simp at s4
      try simp at z4
      try simp at c4
      have z4' := Nat.le_of_eq s4.symm
      have N : NodeB w4 w.heap.size [w.heap.size, w4.heap.size] (w3.heap.size + 1) 13 ⟨#[]⟩ ⟨#[]⟩ 0 (tokAt toks en pos).at_ (.slice none 0 0) [] [] := NodeB.leaf (by omega) (by omega) (by simp; omega) c4
      clear s4 c4
      replace D : Rdr toks en br lim (pos + 1) dep w4 := rda
      replace Dm := D.limle
      replace R : Loc w4 w.heap.size (.pointer none) 30 := loca
      replace Rc := R.cell
      replace Rl := R.lt
      have Rl_w4 := Rl
      replace Rf := R.frozen
      replace K : Kp w.heap.size [br] w w4 := kpa
      replace Kz := K.size
      have Kz_w4 := Kz
      clear hk4
      have hd5 : w3.heap.size + 1 < w4.heap.size := by omega
      go_wp2_with fail
      refine ((is_c (pos := pos + 1) (dep := dep) (toks := toks) (en := en) (lim := lim) (rda) ⟨#[59]⟩).mono ?_)
      rw [mk_toList, show isTok _ (#[59] : Array UInt8).toList = false from cs]
      rintro e w5 ⟨rfl, hk5⟩
      have z5 := hk5.size
      try simp at z5
      replace D : Rdr toks en br lim (pos + 1) dep w5 := rda
      replace Dm := D.limle
      replace R : Loc w5 w.heap.size (.pointer none) 30 := loca
      replace Rc := R.cell
      replace Rl := R.lt
      have Rl_w5 := Rl
      replace Rf := R.frozen
      replace N : NodeB w5 w.heap.size [w.heap.size, w4.heap.size] (w3.heap.size + 1) 13 ⟨#[]⟩ ⟨#[]⟩ 0 (tokAt toks en pos).at_ (.slice none 0 0) [] [] := nba
      replace Nl := N.lt
      replace L : Loc w5 w4.heap.size (ptrV (w3.heap.size + 1)) 30 := loca
      replace Lc := L.cell
      replace Ll := L.lt
      have Ll_w5 := Ll
      replace Lf := L.frozen
      replace K : Kp w.heap.size [br] w w5 := kpa
      replace Kz := K.size
      have Kz_w5 := Kz
      clear hk5
      have hR5 := Rl_w4
      have hN5 : w.heap.size ≤ w3.heap.size := Kz_w3
      generalize w4.heap.size = nv at *
      generalize w3.heap.size + 1 = bd at *
      have M0 := R
      have M1 := L
      obtain ⟨sv, bs, MN⟩ := N.hide
      have hr := D
      have hlen : ([] : List T).length ≤ 100000 := by simp
      clear R L N D
      cases y with
      | stop a er =>
        cases hq
        have ml := MN.lt
        have mle := MN.lo_le
        have ml1 := M1.lt
        have ml0 := M0.lt
        have mz := K.size
        have m2 := M1.cell
        obtain ⟨m3, m4, -⟩ := MN.cell
        go_wp2_with fail
        refine wp_region_U (S := (fun W => W.cell? ⟨nv, 0, none⟩ = some (ptrV bd) ∧ W.cell? ⟨bd, 5, none⟩ = some sv)) (F := [11,12,13]) (by kernel_rfl) ⟨m2, m3⟩ (fun hHeld => ?_)
        refine tkU 0 (v := ?_) rfl (by kernel_rfl) (fun _ _ _ h => h) (Or.inl ⟨by rfl, ?_⟩) (by assumption) ?_
        rotate_left
        · intro w hSw; (try dsimp only at hSw); go_simp; try with_reducible rfl
        try simp only [Act.put, pz]
        refine tkU 1 (v := ?_) rfl (by kernel_rfl) (fun _ _ _ h => h) (Or.inl ⟨by rfl, ?_⟩) (by assumption) ?_
        rotate_left
        · intro w hSw; (try dsimp only at hSw); go_simp; try with_reducible rfl
        try simp only [Act.put, pz]
        refine tkU 2 (v := ?_) rfl (by kernel_rfl) (fun _ _ _ h => h) (Or.inl ⟨by rfl, ?_⟩) (by assumption) ?_
        rotate_left
        · intro w hSw; (try dsimp only at hSw); go_simp; try with_reducible rfl
        try simp only [Act.put, pz]
        refine tkU 3 (v := ?_) rfl (by kernel_rfl) (fun _ _ _ h => h) (Or.inl ⟨by rfl, ?_⟩) (by assumption) ?_
        rotate_left
        · intro w hSw; (try dsimp only at hSw); go_simp; try with_reducible rfl
        try simp only [Act.put, pz]
        refine tkU 4 (v := ?_) rfl (by kernel_rfl) (fun _ _ _ h => h) (Or.inl ⟨by rfl, ?_⟩) (by assumption) ?_
        rotate_left
        · intro w hSw; (try dsimp only at hSw); go_simp; try with_reducible rfl
        try simp only [Act.put, pz]
        refine tkU 5 (v := ?_) rfl (by kernel_rfl) (fun _ _ _ h => h) (Or.inl ⟨by rfl, ?_⟩) (by assumption) ?_
        rotate_left
        · intro w hSw; (try dsimp only at hSw); go_simp; try with_reducible rfl
        try simp only [Act.put, pz]
        refine tkU 6 (v := ?_) rfl (by kernel_rfl) (fun _ _ _ h => h) (Or.inl ⟨by rfl, ?_⟩) (by assumption) ?_
        rotate_left
        · intro w hSw; (try dsimp only at hSw); go_simp; try with_reducible rfl
        try simp only [Act.put, pz]
        refine tkU 7 (v := ?_) rfl (by kernel_rfl) (fun _ _ _ h => h) (Or.inl ⟨by rfl, ?_⟩) (by assumption) ?_
        rotate_left
        · intro w hSw; (try dsimp only at hSw); go_simp; try with_reducible rfl
        try simp only [Act.put, pz]
        refine wpAnyU_one (i := 8) (by kernel_rfl) rfl rfl (fun K1 hK => ?_)
        go_simp
        refine (HX _ (rda)).mono ?_
        clear hK
        rintro e w6 ⟨rfl, hk6⟩
        have z6 := hk6.size
        try simp at z6
        go_wp2
        exact ⟨rfl, rfl, kpa⟩
      | ok t p2 =>
        cases hq
        have ml := MN.lt
        have mle := MN.lo_le
        have ml1 := M1.lt
        have ml0 := M0.lt
        have mz := K.size
        have m2 := M1.cell
        obtain ⟨m3, m4, -⟩ := MN.cell
        go_wp2_with fail
        refine wp_region_U (S := (fun W => W.cell? ⟨nv, 0, none⟩ = some (ptrV bd) ∧ W.cell? ⟨bd, 5, none⟩ = some sv)) (F := [11,12,13]) (by kernel_rfl) ⟨m2, m3⟩ (fun hHeld => ?_)
        refine tkU 0 (v := ?_) rfl (by kernel_rfl) (fun _ _ _ h => h) (Or.inl ⟨by rfl, ?_⟩) (by assumption) ?_
        rotate_left
        · intro w hSw; (try dsimp only at hSw); go_simp; try with_reducible rfl
        try simp only [Act.put, pz]
        refine tkU 1 (v := ?_) rfl (by kernel_rfl) (fun _ _ _ h => h) (Or.inl ⟨by rfl, ?_⟩) (by assumption) ?_
        rotate_left
        · intro w hSw; (try dsimp only at hSw); go_simp; try with_reducible rfl
        try simp only [Act.put, pz]
        refine tkU 2 (v := ?_) rfl (by kernel_rfl) (fun _ _ _ h => h) (Or.inl ⟨by rfl, ?_⟩) (by assumption) ?_
        rotate_left
        · intro w hSw; (try dsimp only at hSw); go_simp; try with_reducible rfl
        try simp only [Act.put, pz]
        refine tkU 3 (v := ?_) rfl (by kernel_rfl) (fun _ _ _ h => h) (Or.inl ⟨by rfl, ?_⟩) (by assumption) ?_
        rotate_left
        · intro w hSw; (try dsimp only at hSw); go_simp; try with_reducible rfl
        try simp only [Act.put, pz]
        refine tkU 4 (v := ?_) rfl (by kernel_rfl) (fun _ _ _ h => h) (Or.inl ⟨by rfl, ?_⟩) (by assumption) ?_
        rotate_left
        · intro w hSw; (try dsimp only at hSw); go_simp; try with_reducible rfl
        try simp only [Act.put, pz]
        refine tkU 5 (v := ?_) rfl (by kernel_rfl) (fun _ _ _ h => h) (Or.inl ⟨by rfl, ?_⟩) (by assumption) ?_
        rotate_left
        · intro w hSw; (try dsimp only at hSw); go_simp; try with_reducible rfl
        try simp only [Act.put, pz]
        refine tkU 6 (v := ?_) rfl (by kernel_rfl) (fun _ _ _ h => h) (Or.inl ⟨by rfl, ?_⟩) (by assumption) ?_
        rotate_left
        · intro w hSw; (try dsimp only at hSw); go_simp; try with_reducible rfl
        try simp only [Act.put, pz]
        refine tkU 7 (v := ?_) rfl (by kernel_rfl) (fun _ _ _ h => h) (Or.inl ⟨by rfl, ?_⟩) (by assumption) ?_
        rotate_left
        · intro w hSw; (try dsimp only at hSw); go_simp; try with_reducible rfl
        try simp only [Act.put, pz]
        refine wpAnyU_one (i := 8) (by kernel_rfl) rfl rfl (fun K1 hK => ?_)
        go_simp
        refine (HX _ (rda)).mono ?_
        rintro e w6 ⟨b6, rfl, hT6, hr6, hk6⟩
        have z6 := hk6.size
        try simp at z6
        have M16 := M1.drew.kp hk6 sza sza
        have M06 := M0.drew.kp hk6 sza sza
        have MN6 := MN.drew.kp hk6 sza (by simp; omega)
        try dsimp only
        refine hK.out _ _ ?_ ?_
        · intro _; exact ⟨M16.cell, MN6.cell.1⟩
        clear hK K1
        try simp only [Act.put, pz]
        refine wpAnyU_one (i := 9) (by kernel_rfl) rfl rfl (fun K1 hK => ?_)
        go_simp
        refine hK.out _ _ ?_ ?_
        · intro _; exact ⟨(M16.alloc _).cell, (MN6.alloc _).cell.1⟩
        clear hK K1
        try simp only [Act.put, pz]
        have NN6 := MN6.alloc (.cells #[ptrV b6] 30)
        have nr6 := NN6.row
        refine wpAnyU_one (i := 10) (by kernel_rfl) rfl rfl (fun K1 hK => ?_)
        refine app_node 33 36 rfl _ sv bs b6 rfl nr6.1 ⟨w6.heap.size, 0, none⟩ rfl (by simp) (by rw [Kids.len _ _ nr6.2.2]; exact hlen) (by simp; omega) ?_
        intro g6 cap6 v6 how6 hgr6 hat6 hlt6
        obtain ⟨d36, d46⟩ := NN6.grown5 hgr6
        have M1G := (M16.alloc (.cells #[ptrV b6] 30)).grown hgr6 (NN6.exne (by simp))
        have M0G := (M06.alloc (.cells #[ptrV b6] 30)).grown hgr6 (NN6.exne (by simp))
        have m1g := M1G.cell
        have sG := hgr6.size
        simp at sG
        refine hK.out _ _ ?_ ?_
        · intro _; exact ⟨m1g, d36⟩
        clear hK K1
        try simp only [Act.put, pz]
        refine wpAnyU_one (i := 11) (by kernel_rfl) rfl rfl (fun K1 hK => ?_)
        go_simp
        refine hK.out _ _ ?_ ?_
        · intro hF; exact absurd hF (by decide)
        clear hK K1
        try simp only [Act.put, pz]
        refine wpAnyU_one (i := 12) (by kernel_rfl) rfl rfl (fun K1 hK => ?_)
        go_simp
        refine hK.out _ _ ?_ ?_
        · intro hF; exact absurd hF (by decide)
        clear hK K1
        try simp only [Act.put, pz]
        refine wpAnyU_one (i := 13) (by kernel_rfl) rfl rfl (fun K1 hK => ?_)
        go_simp
        refine hK.out _ _ ?_ ?_
        · intro hF; exact absurd hF (by decide)
        clear hK K1
        try simp only [Act.put, pz]
        refine wpAnyU_done (by kernel_rfl) ?_ _
        have hTA := hT6.frame (Nat.le_refl _) (Nat.le_refl _) (fun k _ hk => hA_old (o := .cells #[ptrV b6] 30) hk)
        have NP6 := NN6.push hTA sza sza (by intro y hy; simp at hy; have q1 := fun y h => (MN.row.2.1 y h).1; simp only [World.size_drew]; rcases hy with hy | hy | hy | hy; omega; (have := q1 y hy; omega); omega; omega) (by simp; omega) how6 hgr6 hat6 hlt6
        have K6 : Kp w.heap.size [br] w v6 := Kp.grown (kpa) (by simp; omega) hgr6 (fun k e => .inl (Nat.le_trans (by omega) (NN6.own_ge e)))
        have hrG := (hr6.alloc (.cells #[ptrV b6] 30)).grown hgr6 (fun k e => Nat.le_trans hlim (Nat.le_trans (by omega) (NN6.own_ge e)))
        have lt1G := M1G.lt
        have lt0G := M0G.lt
        replace hr := hrG.setCell (p := ⟨bd, 5, none⟩) (by simp; omega) (.slice (some ⟨g6, 0, none⟩) (bs.length + 1) cap6)
        replace K := K6.setCell (p := ⟨bd, 5, none⟩) (by left; simp; omega) (.slice (some ⟨g6, 0, none⟩) (bs.length + 1) cap6)
        replace M1 := M1G.other (c := bd) 5 (.slice (some ⟨g6, 0, none⟩) (bs.length + 1) cap6) (fun e => by have := MN.notin; simp [← e] at this)
        replace M0 := M0G.other (c := bd) 5 (.slice (some ⟨g6, 0, none⟩) (bs.length + 1) cap6) (fun e => by have := MN.notin; simp [← e] at this)
        replace MN := NP6.hide
        have szW : v6.heap.size ≤ (v6.setCell ⟨bd, 5, none⟩ (.slice (some ⟨g6, 0, none⟩) (bs.length + 1) cap6)).heap.size := by simp
        clear M16 M06 MN6 NN6 nr6 how6 hgr6 hat6 hlt6 d36 d46 M1G M0G m1g hTA hT6 NP6 K6 hrG hr6 hk6 m2 m3 m4 hHeld
        generalize v6.setCell ⟨bd, 5, none⟩ (.slice (some ⟨g6, 0, none⟩) (bs.length + 1) cap6) = W6 at *
        obtain ⟨sv, bs, MN⟩ := MN
        have m1c := M1.cell
        have m0c := M0.cell
        have m0f := M0.frozen
        have m0l := M0.lt
        go_wp2
        refine bodyPost_ret (v := .agg #[ptrV bd]) (by simp [results, Tryz.results182, go_sem, *]) rfl ?_
        refine ⟨bd, rfl, ?_, rda, kpa⟩
        have MF := MN.setEx (b := w.heap.size) 0 (ptrV bd) (by left; simp)
        exact MF.isT rfl rfl
  rw [if_neg cr] at hq
  rw [Bool.not_eq_true] at cr
  by_cases ck : (tokAt toks en pos).kind = 1
  rotate_left
  · rw [if_neg (fun h => ck h.1)] at hq
    have hkb : ((tokAt toks en pos).kind == 1) = false := by simpa using ck
    clear ck
    go_enter Tryz.func182, Tryz.ntmps182
    go_wp2_with fail
    refine ((is_c (pos := pos) (dep := dep) (toks := toks) (en := en) (lim := lim) (rda) ⟨#[112,114,105,110,116]⟩).mono ?_)
    rw [mk_toList, show isTok _ (#[112,114,105,110,116] : Array UInt8).toList = false from cp]
    rintro e w1 ⟨rfl, hk1⟩
    have z1 := hk1.size
    try simp at z1
    replace D : Rdr toks en br lim pos dep w1 := rda
    replace Dm := D.limle
    replace R : Loc w1 w.heap.size (.pointer none) 30 := loca
    replace Rc := R.cell
    replace Rl := R.lt
    have Rl_w1 := Rl
    replace Rf := R.frozen
    replace K : Kp w.heap.size [br] w w1 := kpa
    replace Kz := K.size
    have Kz_w1 := Kz
    clear hk1
    go_wp2_with fail
    refine ((is_c (pos := pos) (dep := dep) (toks := toks) (en := en) (lim := lim) (rda) ⟨#[114,101,116,117,114,110]⟩).mono ?_)
    rw [mk_toList, show isTok _ (#[114,101,116,117,114,110] : Array UInt8).toList = false from cr]
    rintro e w2 ⟨rfl, hk2⟩
    have z2 := hk2.size
    try simp at z2
    replace D : Rdr toks en br lim pos dep w2 := rda
    replace Dm := D.limle
    replace R : Loc w2 w.heap.size (.pointer none) 30 := loca
    replace Rc := R.cell
    replace Rl := R.lt
    have Rl_w2 := Rl
    replace Rf := R.frozen
    replace K : Kp w.heap.size [br] w w2 := kpa
    replace Kz := K.size
    have Kz_w2 := Kz
    clear hk2
    have hn := now_c D
    generalize (tokAt toks en pos).kind = kd at *
    go_wp2_with fail
    refine (hn).mono ?_
    rintro e w3 ⟨rfl, hk3⟩
    have z3 := hk3.size
    try simp at z3
    replace D : Rdr toks en br lim pos dep w3 := rda
    replace Dm := D.limle
    replace R : Loc w3 w.heap.size (.pointer none) 30 := loca
    replace Rc := R.cell
    replace Rl := R.lt
    have Rl_w3 := Rl
    replace Rf := R.frozen
    replace K : Kp w.heap.size [br] w w3 := kpa
    replace Kz := K.size
    have Kz_w3 := Kz
    clear hk3
    clear hn
    go_wp2_with fail
    refine (change_c hP hE D hd r hq).mono ?_
    cases r with
    | stop a er =>
      rintro e w4 ⟨rfl, hk4⟩
      have z4 := hk4.size
      try simp at z4
      go_wp2
      exact ⟨rfl, rfl, kpa⟩
    | ok t p =>
      rintro e w4 ⟨b4, rfl, hT4, D4, hk4⟩
      have z4 := hk4.size
      try simp at z4
      clear D
      replace R : Loc w4 w.heap.size (.pointer none) 30 := loca
      replace Rc := R.cell
      replace Rl := R.lt
      have Rl_w4 := Rl
      replace Rf := R.frozen
      replace K : Kp w.heap.size [br] w w4 := kpa
      replace Kz := K.size
      have Kz_w4 := Kz
      clear hk4
      go_wp2
      refine bodyPost_ret (v := .agg #[ptrV b4]) (by simp [results, Tryz.results182, go_sem, *]) rfl ?_
      refine ⟨b4, rfl, ?_, rda, kpa⟩
      refine IsT.frame sza sza (fun k hk hk' => ?_) _ _ hT4
      try simp at hk
      (repeat' (first | rfl | (rw [hS_ne (by first | omega | (simp; omega))]) | (rw [hA_old (by first | omega | (simp; omega))]) | (rw [hD]) | (rw [hDN])))
  have hp : pos < toks.length := tok_lt (en := en) (by rw [ck]; decide)
  by_cases ca : (tokAt toks en (pos + 1)).kind = 4
  rotate_left
  · rw [if_neg (fun h => ca h.2.1)] at hq
    have hkb : ((tokAt toks en (pos + 1)).kind == 4) = false := by simpa using ca
    have CK := Lib.hid ck
    clear ca ck
    go_enter Tryz.func182, Tryz.ntmps182
    go_wp2_with fail
    refine ((is_c (pos := pos) (dep := dep) (toks := toks) (en := en) (lim := lim) (rda) ⟨#[112,114,105,110,116]⟩).mono ?_)
    rw [mk_toList, show isTok _ (#[112,114,105,110,116] : Array UInt8).toList = false from cp]
    rintro e w1 ⟨rfl, hk1⟩
    have z1 := hk1.size
    try simp at z1
    replace D : Rdr toks en br lim pos dep w1 := rda
    replace Dm := D.limle
    replace R : Loc w1 w.heap.size (.pointer none) 30 := loca
    replace Rc := R.cell
    replace Rl := R.lt
    have Rl_w1 := Rl
    replace Rf := R.frozen
    replace K : Kp w.heap.size [br] w w1 := kpa
    replace Kz := K.size
    have Kz_w1 := Kz
    clear hk1
    go_wp2_with fail
    refine ((is_c (pos := pos) (dep := dep) (toks := toks) (en := en) (lim := lim) (rda) ⟨#[114,101,116,117,114,110]⟩).mono ?_)
    rw [mk_toList, show isTok _ (#[114,101,116,117,114,110] : Array UInt8).toList = false from cr]
    rintro e w2 ⟨rfl, hk2⟩
    have z2 := hk2.size
    try simp at z2
    replace D : Rdr toks en br lim pos dep w2 := rda
    replace Dm := D.limle
    replace R : Loc w2 w.heap.size (.pointer none) 30 := loca
    replace Rc := R.cell
    replace Rl := R.lt
    have Rl_w2 := Rl
    replace Rf := R.frozen
    replace K : Kp w.heap.size [br] w w2 := kpa
    replace Kz := K.size
    have Kz_w2 := Kz
    clear hk2
    have hn := now_c D
    rw [CK.out] at hn
    go_wp2_with fail
    refine (hn).mono ?_
    rintro e w3 ⟨rfl, hk3⟩
    have z3 := hk3.size
    try simp at z3
    replace D : Rdr toks en br lim pos dep w3 := rda
    replace Dm := D.limle
    replace R : Loc w3 w.heap.size (.pointer none) 30 := loca
    replace Rc := R.cell
    replace Rl := R.lt
    have Rl_w3 := Rl
    replace Rf := R.frozen
    replace K : Kp w.heap.size [br] w w3 := kpa
    replace Kz := K.size
    have Kz_w3 := Kz
    clear hk3
    clear hn
    have hn := ahead_c D
    generalize (tokAt toks en (pos + 1)).kind = kd at *
    go_wp2_with fail
    refine (hn).mono ?_
    rintro e w4 ⟨rfl, hk4⟩
    have z4 := hk4.size
    try simp at z4
    replace D : Rdr toks en br lim pos dep w4 := rda
    replace Dm := D.limle
    replace R : Loc w4 w.heap.size (.pointer none) 30 := loca
    replace Rc := R.cell
    replace Rl := R.lt
    have Rl_w4 := Rl
    replace Rf := R.frozen
    replace K : Kp w.heap.size [br] w w4 := kpa
    replace Kz := K.size
    have Kz_w4 := Kz
    clear hk4
    clear hn
    go_wp2_with fail
    refine (change_c hP hE D hd r hq).mono ?_
    cases r with
    | stop a er =>
      rintro e w5 ⟨rfl, hk5⟩
      have z5 := hk5.size
      try simp at z5
      go_wp2
      exact ⟨rfl, rfl, kpa⟩
    | ok t p =>
      rintro e w5 ⟨b5, rfl, hT5, D5, hk5⟩
      have z5 := hk5.size
      try simp at z5
      clear D
      replace R : Loc w5 w.heap.size (.pointer none) 30 := loca
      replace Rc := R.cell
      replace Rl := R.lt
      have Rl_w5 := Rl
      replace Rf := R.frozen
      replace K : Kp w.heap.size [br] w w5 := kpa
      replace Kz := K.size
      have Kz_w5 := Kz
      clear hk5
      go_wp2
      refine bodyPost_ret (v := .agg #[ptrV b5]) (by simp [results, Tryz.results182, go_sem, *]) rfl ?_
      refine ⟨b5, rfl, ?_, rda, kpa⟩
      refine IsT.frame sza sza (fun k hk hk' => ?_) _ _ hT5
      try simp at hk
      (repeat' (first | rfl | (rw [hS_ne (by first | omega | (simp; omega))]) | (rw [hA_old (by first | omega | (simp; omega))]) | (rw [hD]) | (rw [hDN])))
  by_cases ct : (tokAt toks en (pos + 1)).text = kDef
  rotate_left
  · rw [if_neg (fun h => ct h.2.2)] at hq
    have hkb : ((tokAt toks en (pos + 1)).text == [58, 61]) = false := by simpa [kDef] using ct
    have CK := Lib.hid ck
    have CA := Lib.hid ca
    clear ca ck ct
    go_enter Tryz.func182, Tryz.ntmps182
    go_wp2_with fail
    refine ((is_c (pos := pos) (dep := dep) (toks := toks) (en := en) (lim := lim) (rda) ⟨#[112,114,105,110,116]⟩).mono ?_)
    rw [mk_toList, show isTok _ (#[112,114,105,110,116] : Array UInt8).toList = false from cp]
    rintro e w1 ⟨rfl, hk1⟩
    have z1 := hk1.size
    try simp at z1
    replace D : Rdr toks en br lim pos dep w1 := rda
    replace Dm := D.limle
    replace R : Loc w1 w.heap.size (.pointer none) 30 := loca
    replace Rc := R.cell
    replace Rl := R.lt
    have Rl_w1 := Rl
    replace Rf := R.frozen
    replace K : Kp w.heap.size [br] w w1 := kpa
    replace Kz := K.size
    have Kz_w1 := Kz
    clear hk1
    go_wp2_with fail
    refine ((is_c (pos := pos) (dep := dep) (toks := toks) (en := en) (lim := lim) (rda) ⟨#[114,101,116,117,114,110]⟩).mono ?_)
    rw [mk_toList, show isTok _ (#[114,101,116,117,114,110] : Array UInt8).toList = false from cr]
    rintro e w2 ⟨rfl, hk2⟩
    have z2 := hk2.size
    try simp at z2
    replace D : Rdr toks en br lim pos dep w2 := rda
    replace Dm := D.limle
    replace R : Loc w2 w.heap.size (.pointer none) 30 := loca
    replace Rc := R.cell
    replace Rl := R.lt
    have Rl_w2 := Rl
    replace Rf := R.frozen
    replace K : Kp w.heap.size [br] w w2 := kpa
    replace Kz := K.size
    have Kz_w2 := Kz
    clear hk2
    have hn := now_c D
    rw [CK.out] at hn
    go_wp2_with fail
    refine (hn).mono ?_
    rintro e w3 ⟨rfl, hk3⟩
    have z3 := hk3.size
    try simp at z3
    replace D : Rdr toks en br lim pos dep w3 := rda
    replace Dm := D.limle
    replace R : Loc w3 w.heap.size (.pointer none) 30 := loca
    replace Rc := R.cell
    replace Rl := R.lt
    have Rl_w3 := Rl
    replace Rf := R.frozen
    replace K : Kp w.heap.size [br] w w3 := kpa
    replace Kz := K.size
    have Kz_w3 := Kz
    clear hk3
    clear hn
    have hn := ahead_c D
    rw [CA.out] at hn
    go_wp2_with fail
    refine (hn).mono ?_
    rintro e w4 ⟨rfl, hk4⟩
    have z4 := hk4.size
    try simp at z4
    replace D : Rdr toks en br lim pos dep w4 := rda
    replace Dm := D.limle
    replace R : Loc w4 w.heap.size (.pointer none) 30 := loca
    replace Rc := R.cell
    replace Rl := R.lt
    have Rl_w4 := Rl
    replace Rf := R.frozen
    replace K : Kp w.heap.size [br] w w4 := kpa
    replace Kz := K.size
    have Kz_w4 := Kz
    clear hk4
    clear hn
    have hn := ahead_c D
    generalize (tokAt toks en (pos + 1)).text = tx at *
    go_wp2_with fail
    refine (hn).mono ?_
    rintro e w5 ⟨rfl, hk5⟩
    have z5 := hk5.size
    try simp at z5
    replace D : Rdr toks en br lim pos dep w5 := rda
    replace Dm := D.limle
    replace R : Loc w5 w.heap.size (.pointer none) 30 := loca
    replace Rc := R.cell
    replace Rl := R.lt
    have Rl_w5 := Rl
    replace Rf := R.frozen
    replace K : Kp w.heap.size [br] w w5 := kpa
    replace Kz := K.size
    have Kz_w5 := Kz
    clear hk5
    clear hn
    go_wp2_with fail
    refine (change_c hP hE D hd r hq).mono ?_
    cases r with
    | stop a er =>
      rintro e w6 ⟨rfl, hk6⟩
      have z6 := hk6.size
      try simp at z6
      go_wp2
      exact ⟨rfl, rfl, kpa⟩
    | ok t p =>
      rintro e w6 ⟨b6, rfl, hT6, D6, hk6⟩
      have z6 := hk6.size
      try simp at z6
      clear D
      replace R : Loc w6 w.heap.size (.pointer none) 30 := loca
      replace Rc := R.cell
      replace Rl := R.lt
      have Rl_w6 := Rl
      replace Rf := R.frozen
      replace K : Kp w.heap.size [br] w w6 := kpa
      replace Kz := K.size
      have Kz_w6 := Kz
      clear hk6
      go_wp2
      refine bodyPost_ret (v := .agg #[ptrV b6]) (by simp [results, Tryz.results182, go_sem, *]) rfl ?_
      refine ⟨b6, rfl, ?_, rda, kpa⟩
      refine IsT.frame sza sza (fun k hk hk' => ?_) _ _ hT6
      try simp at hk
      (repeat' (first | rfl | (rw [hS_ne (by first | omega | (simp; omega))]) | (rw [hA_old (by first | omega | (simp; omega))]) | (rw [hD]) | (rw [hDN])))
  rw [if_pos ⟨ck, ca, ct⟩] at hq
  have hp1 : pos + 1 < toks.length := tok_lt (en := en) (by rw [ca]; decide)
  cases hY : pExpr k toks en dep 1 (pos + 2) with
  | none => rw [hY] at hq; cases hq
  | some y =>
  rw [hY] at hq
  have HX := fun w1 (h1 : Rdr toks en br lim (pos + 1 + 1) dep w1) => hE toks en br lim (pos + 2) dep 1 w1 y h1 hd (by omega) hY
  have CK := Lib.hid ck
  have CA := Lib.hid ca
  have CT := Lib.hid ct
  clear hY hE hB hP ck ca ct
  go_enter Tryz.func182, Tryz.ntmps182
  go_wp2_with fail
  refine ((is_c (pos := pos) (dep := dep) (toks := toks) (en := en) (lim := lim) (rda) ⟨#[112,114,105,110,116]⟩).mono ?_)
  rw [mk_toList, show isTok _ (#[112,114,105,110,116] : Array UInt8).toList = false from cp]
  rintro e w1 ⟨rfl, hk1⟩
  have z1 := hk1.size
  try simp at z1
  replace D : Rdr toks en br lim pos dep w1 := rda
  replace Dm := D.limle
  replace R : Loc w1 w.heap.size (.pointer none) 30 := loca
  replace Rc := R.cell
  replace Rl := R.lt
  have Rl_w1 := Rl
  replace Rf := R.frozen
  replace K : Kp w.heap.size [br] w w1 := kpa
  replace Kz := K.size
  have Kz_w1 := Kz
  clear hk1
  go_wp2_with fail
  refine ((is_c (pos := pos) (dep := dep) (toks := toks) (en := en) (lim := lim) (rda) ⟨#[114,101,116,117,114,110]⟩).mono ?_)
  rw [mk_toList, show isTok _ (#[114,101,116,117,114,110] : Array UInt8).toList = false from cr]
  rintro e w2 ⟨rfl, hk2⟩
  have z2 := hk2.size
  try simp at z2
  replace D : Rdr toks en br lim pos dep w2 := rda
  replace Dm := D.limle
  replace R : Loc w2 w.heap.size (.pointer none) 30 := loca
  replace Rc := R.cell
  replace Rl := R.lt
  have Rl_w2 := Rl
  replace Rf := R.frozen
  replace K : Kp w.heap.size [br] w w2 := kpa
  replace Kz := K.size
  have Kz_w2 := Kz
  clear hk2
  have hn := now_c D
  rw [CK.out] at hn
  go_wp2_with fail
  refine (hn).mono ?_
  rintro e w3 ⟨rfl, hk3⟩
  have z3 := hk3.size
  try simp at z3
  replace D : Rdr toks en br lim pos dep w3 := rda
  replace Dm := D.limle
  replace R : Loc w3 w.heap.size (.pointer none) 30 := loca
  replace Rc := R.cell
  replace Rl := R.lt
  have Rl_w3 := Rl
  replace Rf := R.frozen
  replace K : Kp w.heap.size [br] w w3 := kpa
  replace Kz := K.size
  have Kz_w3 := Kz
  clear hk3
  clear hn
  have hn := ahead_c D
  rw [CA.out] at hn
  go_wp2_with fail
  refine (hn).mono ?_
  rintro e w4 ⟨rfl, hk4⟩
  have z4 := hk4.size
  try simp at z4
  replace D : Rdr toks en br lim pos dep w4 := rda
  replace Dm := D.limle
  replace R : Loc w4 w.heap.size (.pointer none) 30 := loca
  replace Rc := R.cell
  replace Rl := R.lt
  have Rl_w4 := Rl
  replace Rf := R.frozen
  replace K : Kp w.heap.size [br] w w4 := kpa
  replace Kz := K.size
  have Kz_w4 := Kz
  clear hk4
  clear hn
  have hn := ahead_c D
  rw [CT.out] at hn
  go_wp2_with fail
  refine (hn).mono ?_
  rintro e w5 ⟨rfl, hk5⟩
  have z5 := hk5.size
  try simp at z5
  replace D : Rdr toks en br lim pos dep w5 := rda
  replace Dm := D.limle
  replace R : Loc w5 w.heap.size (.pointer none) 30 := loca
  replace Rc := R.cell
  replace Rl := R.lt
  have Rl_w5 := Rl
  replace Rf := R.frozen
  replace K : Kp w.heap.size [br] w w5 := kpa
  replace Kz := K.size
  have Kz_w5 := Kz
  clear hk5
  clear hn
  go_wp2_with fail
  refine (take_c D hp).mono ?_
  rintro e w6 ⟨rfl, D6, hk6⟩
  have z6 := hk6.size
  try simp at z6
  replace R : Loc w6 w.heap.size (.pointer none) 30 := loca
  replace Rc := R.cell
  replace Rl := R.lt
  have Rl_w6 := Rl
  replace Rf := R.frozen
  replace K : Kp w.heap.size [br] w w6 := kpa
  replace Kz := K.size
  have Kz_w6 := Kz
  clear hk6 D
  have D := D6
  clear D6
  replace Dm := D.limle
  have TK := Blk.new w6 #[.int .i64 (tokAt toks en pos).kind, .string (B (tokAt toks en pos).text), .int .i64 (tokAt toks en pos).at_] 35
  go_wp2_with fail
  have D7 := D.alloc (.cells #[.int .i64 (tokAt toks en pos).kind, .string (B (tokAt toks en pos).text), .int .i64 (tokAt toks en pos).at_] 35)
  go_wp2_with fail
  refine (take_c D7 hp1).mono ?_
  rintro e w7 ⟨rfl, D7, hk7⟩
  have z7 := hk7.size
  try simp at z7
  replace R : Loc w7 w.heap.size (.pointer none) 30 := loca
  replace Rc := R.cell
  replace Rl := R.lt
  have Rl_w7 := Rl
  replace Rf := R.frozen
  replace TK : Blk w7 w6.heap.size #[.int .i64 (tokAt toks en pos).kind, .string (B (tokAt toks en pos).text), .int .i64 (tokAt toks en pos).at_] 35 := bka
  replace TKl := TK.lt
  replace K : Kp w.heap.size [br] w w7 := kpa
  replace Kz := K.size
  have Kz_w7 := Kz
  clear hk7 D
  have D := D7
  clear D7
  replace Dm := D.limle
  clear D7
  have hl7 : w.heap.size < w6.heap.size := Rl_w6
  have hTl := TKl
  have hTT := TK.three
  generalize w6.heap.size = tv at *
  generalize tokAt toks en pos = tk at *
  go_wp2_with fail
  refine wp_region_U (S := (fun W => W.cell? ⟨tv, 0, none⟩ = some (.int .i64 tk.kind) ∧ W.cell? ⟨tv, 1, none⟩ = some (.string (B tk.text)) ∧ W.cell? ⟨tv, 2, none⟩ = some (.int .i64 tk.at_))) (F := [5]) (by kernel_rfl) (by (first | (simp; done) | (simp [World.cell?_setCell_other, World.cell?_alloc_lt, *]; done))) (fun hHeld => ?_)
  refine tkU 0 (v := ?_) rfl (by kernel_rfl) (fun _ _ _ h => h) (Or.inl ⟨by rfl, ?_⟩) (by assumption) ?_
  rotate_left
  · intro w hSw; (try dsimp only at hSw); go_simp; try with_reducible rfl
  try simp only [Act.put, pz]
  refine tkU 1 (v := ?_) rfl (by kernel_rfl) (fun _ _ _ h => h) (Or.inl ⟨by rfl, ?_⟩) (by assumption) ?_
  rotate_left
  · intro w hSw; (try dsimp only at hSw); go_simp; try with_reducible rfl
  try simp only [Act.put, pz]
  refine wpAnyU_one (i := 2) (by kernel_rfl) rfl rfl (fun K1 hK => ?_)
  go_simp
  refine (HX _ (rda)).mono ?_
  cases y with
  | stop a er =>
    cases hq
    clear hK
    rintro e w9 ⟨rfl, hk9⟩
    have z9 := hk9.size
    try simp at z9
    go_wp2
    exact ⟨rfl, rfl, kpa⟩
  | ok t p2 =>
    cases hq
    rintro e w9 ⟨b9, rfl, hT9, D9, hk9⟩
    have z9 := hk9.size
    try simp at z9
    have T9 : TreeAt w9 w7.drew.heap.size w9.heap.size b9 t := ⟨Nat.le_refl _, hT9⟩
    simp only [World.size_drew] at T9
    clear D
    replace R : Loc w9 w.heap.size (.pointer none) 30 := loca
    replace Rc := R.cell
    replace Rl := R.lt
    have Rl_w9 := Rl
    replace Rf := R.frozen
    replace TK : Blk w9 tv #[.int .i64 tk.kind, .string (B tk.text), .int .i64 tk.at_] 35 := bka
    replace TKl := TK.lt
    replace K : Kp w.heap.size [br] w w9 := kpa
    replace Kz := K.size
    have Kz_w9 := Kz
    clear hk9
    try dsimp only
    try simp only [sz3]
    refine hK.out _ _ ?_ ?_
    · intro _; exact TK.three
    clear hK K1
    try simp only [Act.put, pz]
    refine wpAnyU_one (i := 3) (by kernel_rfl) rfl rfl (fun K1 hK => ?_)
    go_simp
    try dsimp only
    try simp only [sz3]
    refine hK.out _ _ ?_ ?_
    · intro _; exact (Blk.alloc TK _).three
    clear hK K1
    try simp only [Act.put, pz]
    refine wpAnyU_one (i := 4) (by kernel_rfl) rfl rfl (fun K1 hK => ?_)
    go_simp
    refine (node_c _ _ _ _ _ _ _ _).mono ?_
    rintro e w10 ⟨rfl, s10, c10, hk10⟩
    have z10 := hk10.size
    try simp at s10
    try simp at z10
    try simp at c10
    have B10 := Blk.mk c10
    have z10' := Nat.le_of_eq s10.symm
    clear s10 c10
    have G10 : Blk w10 w9.heap.size #[ptrV b9] 30 := bka
    have D10 : Rdr toks en br lim p2 dep w10 := rda
    replace R : Loc w10 w.heap.size (.pointer none) 30 := loca
    replace Rc := R.cell
    replace Rl := R.lt
    have Rl_w10 := Rl
    replace Rf := R.frozen
    replace TK : Blk w10 tv #[.int .i64 tk.kind, .string (B tk.text), .int .i64 tk.at_] 35 := bka
    replace TKl := TK.lt
    replace T9 : TreeAt w10 w7.heap.size w9.heap.size b9 t := tra
    replace T9m := T9.le
    replace K : Kp w.heap.size [br] w w10 := kpa
    replace Kz := K.size
    have Kz_w10 := Kz
    clear hk10
    try dsimp only
    try simp only [sz3]
    refine hK.out _ _ ?_ ?_
    · intro _; exact TK.three
    clear hK K1
    try simp only [Act.put, pz]
    refine wpAnyU_one (i := 5) (by kernel_rfl) rfl rfl (fun K1 hK => ?_)
    refine st_node 2 66 rfl _ _ (.pointer none) rfl rfl (loca) ?_
    try dsimp only
    try simp only [sz3]
    refine hK.out _ _ ?_ ?_
    · intro hF; exact absurd hF (by decide)
    clear hK K1
    try simp only [Act.put, pz]
    refine wpAnyU_done (by kernel_rfl) ?_ _
    go_wp2
    refine bodyPost_ret (v := .agg #[ptrV (w9.heap.size + 1 + 2)]) (by simp [results, Tryz.results182, go_sem, *]) rfl ?_
    refine ⟨_, rfl, ?_, rda, kpa⟩
    refine IsX.isT _ _ (IsX.built (g := w9.heap.size) (name := tk.text) (typ := []) (ex := []) (bs := [b9]) (ts := [t]) ?_ ?_ (by simp) ?_ ?_ (by simp) ?_ (by simp) ?_ ⟨IsX.frame ?_ ?_ (by simp) (fun k hk hk' hx => Kp.block (n := w9.heap.size) (S := [w.heap.size]) ?_ k hk' (by simp; omega)) _ _ (IsT.isX (ex := []) (Nat.le_refl _) (Nat.le_refl _) (by simp) _ _ T9.tr), trivial⟩)
    · exact sza
    · exact sza
    · exact sza
    · exact sza
    · exact Blk.blk (t := 30) (bka)
    · exact Blk.blk (t := 108) (bka)
    · exact sza
    · exact sza
    · exact kpa

end Go.Proofs.YtbplaekabeggkaaGreatDoor

namespace Go.Proofs.YtbplaekabeggkaaGreatDoor
open Go.RowKit

def CStmt (k : Nat) : Prop := ∀ (toks : List Tok) (en : Int) (br lim pos dep : Nat) (w : World) (r : Res T), Rdr toks en br lim pos dep w → dep ≤ 40 → pStmt k toks en dep pos = some r →
  Calls Tryz.prog 160 #[.pointer (some ⟨br, 0, none⟩)] w (PostN toks en br lim dep w r)
def CBranch (k : Nat) : Prop := ∀ (toks : List Tok) (en : Int) (br lim pos dep : Nat) (w : World) (r : Res T), Rdr toks en br lim pos dep w → dep ≤ 40 → pBranch k toks en dep pos = some r →
  Calls Tryz.prog 180 #[.pointer (some ⟨br, 0, none⟩)] w (PostN toks en br lim dep w r)
def CBlock (k : Nat) : Prop := ∀ (toks : List Tok) (en : Int) (br lim pos dep : Nat) (w : World) (r : Res T), Rdr toks en br lim pos dep w → dep ≤ 40 → pBlock k toks en dep pos = some r →
  Calls Tryz.prog 135 #[.pointer (some ⟨br, 0, none⟩)] w (PostN toks en br lim dep w r)

set_option maxRecDepth 100000 in
set_option maxHeartbeats 2000000 in
theorem block1_c {toks : List Tok} {en : Int} {br lim pos dep cb k : Nat} {w : World} (hE : ∀ j, j ≤ k → CStmt j) (hR : Rdr toks en br lim pos dep w) (hd : dep ≤ 40) (hp : pos < toks.length)
    (MC : Loc w cb (ptrV br) 73) (hcb : lim ≤ cb) (r : Res T)
    (hq : (match pStmts k toks en dep [] (pos + 1) with
      | some (.ok ts p) => some (.ok (.mk 6 [] [] 0 (tokAt toks en pos).at_ ts) p)
      | some (.stop a e) => some (.stop a e)
      | none => none) = some r) :
    Calls Tryz.prog 159 #[.pointer (some ⟨cb, 0, none⟩)] w (PostN toks en br lim dep w r) := by
  have hlim := hR.limle
  have hbr := hR.lt
  have hcw : cb < w.heap.size := MC.lt
  have Cl := MC.lt
  have Cc := MC.cell
  have hbc : ¬ cb = br := by omega
  have hbc' : ¬ br = cb := by omega
  cases hX : pStmts k toks en dep [] (pos + 1) with
  | none => rw [hX] at hq; cases hq
  | some x =>
  rw [hX] at hq
  have HM := Lib.hid hX
  clear hX
  have D := hR
  have C := MC
  have K := Kp.refl w.heap.size [br] w
  clear hR MC
  go_enter Tryz.func159, Tryz.ntmps159
  go_wp2_with fail
  refine (take_c (pos := pos) (dep := dep) (toks := toks) (en := en) (lim := lim) (rda) hp).mono ?_
  rintro e w1 ⟨rfl, D1, hk1⟩
  have z1 := hk1.size
  try simp at z1
  replace C : Loc w1 cb (ptrV br) 73 := loca
  replace Cc := C.cell
  replace Cl := C.lt
  have Cl_w1 := Cl
  replace Cf := C.frozen
  replace R : Loc w1 w.heap.size (.pointer none) 30 := loca
  replace Rc := R.cell
  replace Rl := R.lt
  have Rl_w1 := Rl
  replace Rf := R.frozen
  replace K : Kp w.heap.size [br] w w1 := kpa
  replace Kz := K.size
  have Kz_w1 := Kz
  clear hk1 D
  have D := D1
  clear D1
  replace Dm := D.limle
  go_wp2_with fail
  refine (plain_c _ _ _ _ _ _).mono ?_
  rintro e w2 ⟨rfl, s2, c2, hk2⟩
  have z2 := hk2.size
  try simp at s2
  try simp at z2
  try simp at c2
  have z2' := Nat.le_of_eq s2.symm
  have N : NodeB w2 w.heap.size [w.heap.size, w2.heap.size] (w1.heap.size + 1) 6 ⟨#[]⟩ ⟨#[]⟩ 0 (tokAt toks en pos).at_ (.slice none 0 0) [] [] := NodeB.leaf (by omega) (by omega) (by simp; omega) c2
  clear s2 c2
  replace D : Rdr toks en br lim (pos + 1) dep w2 := rda
  replace Dm := D.limle
  replace C : Loc w2 cb (ptrV br) 73 := loca
  replace Cc := C.cell
  replace Cl := C.lt
  have Cl_w2 := Cl
  replace Cf := C.frozen
  replace R : Loc w2 w.heap.size (.pointer none) 30 := loca
  replace Rc := R.cell
  replace Rl := R.lt
  have Rl_w2 := Rl
  replace Rf := R.frozen
  replace K : Kp w.heap.size [br] w w2 := kpa
  replace Kz := K.size
  have Kz_w2 := Kz
  clear hk2
  have L := Loc.new w2 (ptrV (w1.heap.size + 1)) 30
  go_wp2_with fail
  replace D : Rdr toks en br lim (pos + 1) dep (w2.alloc (.cells #[ptrV (w1.heap.size + 1)] 30)) := rda
  replace Dm := D.limle
  replace C : Loc (w2.alloc (.cells #[ptrV (w1.heap.size + 1)] 30)) cb (ptrV br) 73 := loca
  replace Cc := C.cell
  replace Cl := C.lt
  have Cl_w2alloccellsptrVw1heapsize130 := Cl
  replace Cf := C.frozen
  replace R : Loc (w2.alloc (.cells #[ptrV (w1.heap.size + 1)] 30)) w.heap.size (.pointer none) 30 := loca
  replace Rc := R.cell
  replace Rl := R.lt
  have Rl_w2alloccellsptrVw1heapsize130 := Rl
  replace Rf := R.frozen
  replace N : NodeB (w2.alloc (.cells #[ptrV (w1.heap.size + 1)] 30)) w.heap.size [w.heap.size, w2.heap.size] (w1.heap.size + 1) 6 ⟨#[]⟩ ⟨#[]⟩ 0 (tokAt toks en pos).at_ (.slice none 0 0) [] [] := nba
  replace Nl := N.lt
  replace L : Loc (w2.alloc (.cells #[ptrV (w1.heap.size + 1)] 30)) w2.heap.size (ptrV (w1.heap.size + 1)) 30 := loca
  replace Lc := L.cell
  replace Ll := L.lt
  have Ll_w2alloccellsptrVw1heapsize130 := Ll
  replace Lf := L.frozen
  replace K : Kp w.heap.size [br] w (w2.alloc (.cells #[ptrV (w1.heap.size + 1)] 30)) := kpa
  replace Kz := K.size
  have Kz_w2alloccellsptrVw1heapsize130 := Kz
  have hnn : w.heap.size < w2.heap.size := Rl_w2
  have hcn : cb < w2.heap.size := Cl_w2
  generalize hWW : (w2.alloc (.cells #[ptrV (w1.heap.size + 1)] 30)) = W2 at *
  clear hWW
  generalize w2.heap.size = nv at *
  have hb0 : w.heap.size ≤ w1.heap.size + 1 := by omega
  generalize w1.heap.size + 1 = bd at *
  go_loopg [] k (fun j wr => ∃ p acc sv bs, Go.Aside (j ≤ k ∧ pStmts j toks en dep acc p = some x ∧ acc.length ≤ p) ∧ Rdr toks en br lim p dep wr ∧ Loc wr w.heap.size (.pointer none) 30 ∧ Loc wr nv (ptrV bd) 30 ∧ Loc wr cb (ptrV br) 73 ∧
    NodeB wr w.heap.size [w.heap.size, nv] bd 6 ⟨#[]⟩ ⟨#[]⟩ 0 (tokAt toks en pos).at_ sv bs acc ∧ Kp w.heap.size [br] w wr)
  case atStart => exact ⟨_, _, _, _, ⟨Nat.le_refl _, HM.out, by simp⟩, D, R, L, C, N, K⟩
  case round =>
    obtain ⟨p, acc, sv, bs, A, rR, rL0, rL1, rLC, rN, rK⟩ := hrel
    obtain ⟨hjk, hA, hAl⟩ := A.out
    have rl0 := rL0.lt
    have rl1 := rL1.lt
    have rlc := rLC.lt
    have rc := rLC.cell
    have rz := rK.size
    have rle := rN.lo_le
    clear A HM D R L C N K
    cases gk with
    | zero => simp [pStmts] at hA
    | succ gk =>
    rw [pStmts] at hA
    by_cases c1 : isTok (tokAt toks en p) kClose = true
    · rw [if_pos c1] at hA
      cases hA
      cases hq
      have : ¬ cb = br := sza
      have : ¬ br = cb := sza
      go_wp2_with fail
      refine (accept_yes rR ⟨#[125]⟩ (by rw [mk_toList]; exact c1)).mono ?_
      rintro e w6 ⟨rfl, hr6, hk6⟩
      have z6 := hk6.size
      try simp at z6
      have lc6_0 := fun o => hk6.cell (cb) o sza sza
      have lf6_0 := fun o => hk6.frozen (cb) o sza sza
      have ll6_0 : cb < w6.heap.size := sza
      try simp at lc6_0
      try simp at lf6_0
      have lb6_0 := hk6.block (cb) sza sza
      have M0 : Loc w6 w.heap.size (.pointer none) 30 := loca
      have M1 : Loc w6 nv (ptrV bd) 30 := loca
      have MN : NodeB w6 w.heap.size [w.heap.size, nv] bd 6 ⟨#[]⟩ ⟨#[]⟩ 0 (tokAt toks en pos).at_ sv bs acc := nba
      have m0 := M0.cell
      have m1 := M0.frozen
      have m2 := M1.cell
      go_wp2
      refine bodyPost_ret (v := .agg #[ptrV bd]) (by simp [results, Tryz.results159, go_sem, *]) rfl ?_
      refine ⟨bd, rfl, ?_, rda, kpa⟩
      have MF := MN.setEx (b := w.heap.size) 0 (ptrV bd) (by left; simp)
      exact MF.isT rfl rfl
    · rw [if_neg c1] at hA
      rw [Bool.not_eq_true] at c1
      cases hX : pStmt gk toks en dep p with
      | none => rw [hX] at hA; cases hA
      | some y =>
      rw [hX] at hA
      have HE := fun w1 (h1 : Rdr toks en br lim p dep w1) => hE gk (by omega) toks en br lim p dep w1 y h1 hd hX
      have hlt := fun t p' (e : y = .ok t p') => (advS gk).stmt _ _ _ _ t p' (e ▸ hX)
      clear hX
      cases y with
      | stop a er =>
        cases hA
        cases hq
        have : ¬ cb = br := sza
        have : ¬ br = cb := sza
        go_wp2_with fail
        refine (accept_no rR ⟨#[125]⟩ (by rw [mk_toList]; exact c1)).mono ?_
        rintro e w5 ⟨rfl, hk5⟩
        have z5 := hk5.size
        try simp at z5
        have lc5_0 := fun o => hk5.cell (cb) o sza sza
        have lf5_0 := fun o => hk5.frozen (cb) o sza sza
        have ll5_0 : cb < w5.heap.size := sza
        try simp at lc5_0
        try simp at lf5_0
        have lb5_0 := hk5.block (cb) sza sza
        have M0 : Loc w5 w.heap.size (.pointer none) 30 := loca
        have M1 : Loc w5 nv (ptrV bd) 30 := loca
        have MC : Loc w5 cb (ptrV br) 73 := loca
        have MN : NodeB w5 w.heap.size [w.heap.size, nv] bd 6 ⟨#[]⟩ ⟨#[]⟩ 0 (tokAt toks en pos).at_ sv bs acc := nba
        have K : Kp w.heap.size [br] w w5 := kpa
        have ml := MN.lt
        have mle := MN.lo_le
        have ml1 := M1.lt
        have ml0 := M0.lt
        have mz := K.size
        have m2 := M1.cell
        obtain ⟨m3, m4, -⟩ := MN.cell
        have mlc := MC.lt
        have mc := MC.cell
        go_wp2_with fail
        refine wp_region_U (S := (fun W => W.cell? ⟨nv, 0, none⟩ = some (ptrV bd) ∧ W.cell? ⟨bd, 5, none⟩ = some sv ∧ W.cell? ⟨cb, 0, none⟩ = some (ptrV br))) (F := [11,12,13]) (by kernel_rfl) ⟨m2, m3, mc⟩ (fun hHeld => ?_)
        refine tkU 0 (v := ?_) rfl (by kernel_rfl) (fun _ _ _ h => h) (Or.inl ⟨by rfl, ?_⟩) (by assumption) ?_
        rotate_left
        · intro w hSw; (try dsimp only at hSw); go_simp; try with_reducible rfl
        try simp only [Act.put, pz]
        refine tkU 1 (v := ?_) rfl (by kernel_rfl) (fun _ _ _ h => h) (Or.inl ⟨by rfl, ?_⟩) (by assumption) ?_
        rotate_left
        · intro w hSw; (try dsimp only at hSw); go_simp; try with_reducible rfl
        try simp only [Act.put, pz]
        refine tkU 2 (v := ?_) rfl (by kernel_rfl) (fun _ _ _ h => h) (Or.inl ⟨by rfl, ?_⟩) (by assumption) ?_
        rotate_left
        · intro w hSw; (try dsimp only at hSw); go_simp; try with_reducible rfl
        try simp only [Act.put, pz]
        refine tkU 3 (v := ?_) rfl (by kernel_rfl) (fun _ _ _ h => h) (Or.inl ⟨by rfl, ?_⟩) (by assumption) ?_
        rotate_left
        · intro w hSw; (try dsimp only at hSw); go_simp; try with_reducible rfl
        try simp only [Act.put, pz]
        refine tkU 4 (v := ?_) rfl (by kernel_rfl) (fun _ _ _ h => h) (Or.inl ⟨by rfl, ?_⟩) (by assumption) ?_
        rotate_left
        · intro w hSw; (try dsimp only at hSw); go_simp; try with_reducible rfl
        try simp only [Act.put, pz]
        refine tkU 5 (v := ?_) rfl (by kernel_rfl) (fun _ _ _ h => h) (Or.inl ⟨by rfl, ?_⟩) (by assumption) ?_
        rotate_left
        · intro w hSw; (try dsimp only at hSw); go_simp; try with_reducible rfl
        try simp only [Act.put, pz]
        refine tkU 6 (v := ?_) rfl (by kernel_rfl) (fun _ _ _ h => h) (Or.inl ⟨by rfl, ?_⟩) (by assumption) ?_
        rotate_left
        · intro w hSw; (try dsimp only at hSw); go_simp; try with_reducible rfl
        try simp only [Act.put, pz]
        refine tkU 7 (v := ?_) rfl (by kernel_rfl) (fun _ _ _ h => h) (Or.inl ⟨by rfl, ?_⟩) (by assumption) ?_
        rotate_left
        · intro w hSw; (try dsimp only at hSw); go_simp; try with_reducible rfl
        try simp only [Act.put, pz]
        refine wpAnyU_one (i := 8) (by kernel_rfl) rfl rfl (fun K1 hK => ?_)
        go_simp
        refine (HE _ (rda)).mono ?_
        clear hK
        rintro e w6 ⟨rfl, hk6⟩
        have z6 := hk6.size
        try simp at z6
        go_wp2
        exact ⟨rfl, rfl, kpa⟩
      | ok t p' =>
        have hlt := hlt t p' rfl
        dsimp only at hA
        have : ¬ cb = br := sza
        have : ¬ br = cb := sza
        go_wp2_with fail
        refine (accept_no rR ⟨#[125]⟩ (by rw [mk_toList]; exact c1)).mono ?_
        rintro e w5 ⟨rfl, hk5⟩
        have z5 := hk5.size
        try simp at z5
        have lc5_0 := fun o => hk5.cell (cb) o sza sza
        have lf5_0 := fun o => hk5.frozen (cb) o sza sza
        have ll5_0 : cb < w5.heap.size := sza
        try simp at lc5_0
        try simp at lf5_0
        have lb5_0 := hk5.block (cb) sza sza
        have M0 : Loc w5 w.heap.size (.pointer none) 30 := loca
        have M1 : Loc w5 nv (ptrV bd) 30 := loca
        have MC : Loc w5 cb (ptrV br) 73 := loca
        have MN : NodeB w5 w.heap.size [w.heap.size, nv] bd 6 ⟨#[]⟩ ⟨#[]⟩ 0 (tokAt toks en pos).at_ sv bs acc := nba
        have K : Kp w.heap.size [br] w w5 := kpa
        have hlen : acc.length ≤ 100000 := by have := rR.posle; have := rR.small; omega
        have hr : Rdr toks en br lim p dep w5 := rda
        clear rL0 rL1 rLC rN rK rR
        have ml := MN.lt
        have mle := MN.lo_le
        have ml1 := M1.lt
        have ml0 := M0.lt
        have mz := K.size
        have m2 := M1.cell
        obtain ⟨m3, m4, -⟩ := MN.cell
        have mlc := MC.lt
        have mc := MC.cell
        go_wp2_with fail
        refine wp_region_U (S := (fun W => W.cell? ⟨nv, 0, none⟩ = some (ptrV bd) ∧ W.cell? ⟨bd, 5, none⟩ = some sv ∧ W.cell? ⟨cb, 0, none⟩ = some (ptrV br))) (F := [11,12,13]) (by kernel_rfl) ⟨m2, m3, mc⟩ (fun hHeld => ?_)
        refine tkU 0 (v := ?_) rfl (by kernel_rfl) (fun _ _ _ h => h) (Or.inl ⟨by rfl, ?_⟩) (by assumption) ?_
        rotate_left
        · intro w hSw; (try dsimp only at hSw); go_simp; try with_reducible rfl
        try simp only [Act.put, pz]
        refine tkU 1 (v := ?_) rfl (by kernel_rfl) (fun _ _ _ h => h) (Or.inl ⟨by rfl, ?_⟩) (by assumption) ?_
        rotate_left
        · intro w hSw; (try dsimp only at hSw); go_simp; try with_reducible rfl
        try simp only [Act.put, pz]
        refine tkU 2 (v := ?_) rfl (by kernel_rfl) (fun _ _ _ h => h) (Or.inl ⟨by rfl, ?_⟩) (by assumption) ?_
        rotate_left
        · intro w hSw; (try dsimp only at hSw); go_simp; try with_reducible rfl
        try simp only [Act.put, pz]
        refine tkU 3 (v := ?_) rfl (by kernel_rfl) (fun _ _ _ h => h) (Or.inl ⟨by rfl, ?_⟩) (by assumption) ?_
        rotate_left
        · intro w hSw; (try dsimp only at hSw); go_simp; try with_reducible rfl
        try simp only [Act.put, pz]
        refine tkU 4 (v := ?_) rfl (by kernel_rfl) (fun _ _ _ h => h) (Or.inl ⟨by rfl, ?_⟩) (by assumption) ?_
        rotate_left
        · intro w hSw; (try dsimp only at hSw); go_simp; try with_reducible rfl
        try simp only [Act.put, pz]
        refine tkU 5 (v := ?_) rfl (by kernel_rfl) (fun _ _ _ h => h) (Or.inl ⟨by rfl, ?_⟩) (by assumption) ?_
        rotate_left
        · intro w hSw; (try dsimp only at hSw); go_simp; try with_reducible rfl
        try simp only [Act.put, pz]
        refine tkU 6 (v := ?_) rfl (by kernel_rfl) (fun _ _ _ h => h) (Or.inl ⟨by rfl, ?_⟩) (by assumption) ?_
        rotate_left
        · intro w hSw; (try dsimp only at hSw); go_simp; try with_reducible rfl
        try simp only [Act.put, pz]
        refine tkU 7 (v := ?_) rfl (by kernel_rfl) (fun _ _ _ h => h) (Or.inl ⟨by rfl, ?_⟩) (by assumption) ?_
        rotate_left
        · intro w hSw; (try dsimp only at hSw); go_simp; try with_reducible rfl
        try simp only [Act.put, pz]
        refine wpAnyU_one (i := 8) (by kernel_rfl) rfl rfl (fun K1 hK => ?_)
        go_simp
        refine (HE _ (rda)).mono ?_
        rintro e w6 ⟨b6, rfl, hT6, hr6, hk6⟩
        have z6 := hk6.size
        try simp at z6
        have M16 := M1.drew.kp hk6 sza sza
        have M06 := M0.drew.kp hk6 sza sza
        have MN6 := MN.drew.kp hk6 sza (by simp; omega)
        have MC6 := MC.drew.kp hk6 sza sza
        try dsimp only
        refine hK.out _ _ ?_ ?_
        · intro _; exact ⟨M16.cell, MN6.cell.1, MC6.cell⟩
        clear hK K1
        try simp only [Act.put, pz]
        refine wpAnyU_one (i := 9) (by kernel_rfl) rfl rfl (fun K1 hK => ?_)
        go_simp
        refine hK.out _ _ ?_ ?_
        · intro _; exact ⟨(M16.alloc _).cell, (MN6.alloc _).cell.1, (MC6.alloc _).cell⟩
        clear hK K1
        try simp only [Act.put, pz]
        have NN6 := MN6.alloc (.cells #[ptrV b6] 30)
        have nr6 := NN6.row
        refine wpAnyU_one (i := 10) (by kernel_rfl) rfl rfl (fun K1 hK => ?_)
        refine app_node 16 19 rfl _ sv bs b6 rfl nr6.1 ⟨w6.heap.size, 0, none⟩ rfl (by simp) (by rw [Kids.len _ _ nr6.2.2]; exact hlen) (by simp; omega) ?_
        intro g6 cap6 v6 how6 hgr6 hat6 hlt6
        obtain ⟨d36, d46⟩ := NN6.grown5 hgr6
        have M1G := (M16.alloc (.cells #[ptrV b6] 30)).grown hgr6 (NN6.exne (by simp))
        have M0G := (M06.alloc (.cells #[ptrV b6] 30)).grown hgr6 (NN6.exne (by simp))
        have MCG := (MC6.alloc (.cells #[ptrV b6] 30)).grown hgr6 (fun e => by have := NN6.own_ge e.symm; omega)
        have mcg := MCG.cell
        have m1g := M1G.cell
        have sG := hgr6.size
        simp at sG
        refine hK.out _ _ ?_ ?_
        · intro _; exact ⟨m1g, d36, mcg⟩
        clear hK K1
        try simp only [Act.put, pz]
        refine wpAnyU_one (i := 11) (by kernel_rfl) rfl rfl (fun K1 hK => ?_)
        go_simp
        refine hK.out _ _ ?_ ?_
        · intro hF; exact absurd hF (by decide)
        clear hK K1
        try simp only [Act.put, pz]
        refine wpAnyU_one (i := 12) (by kernel_rfl) rfl rfl (fun K1 hK => ?_)
        go_simp
        refine hK.out _ _ ?_ ?_
        · intro hF; exact absurd hF (by decide)
        clear hK K1
        try simp only [Act.put, pz]
        refine wpAnyU_one (i := 13) (by kernel_rfl) rfl rfl (fun K1 hK => ?_)
        go_simp
        refine hK.out _ _ ?_ ?_
        · intro hF; exact absurd hF (by decide)
        clear hK K1
        try simp only [Act.put, pz]
        refine wpAnyU_done (by kernel_rfl) ?_ _
        have hTA := hT6.frame (Nat.le_refl _) (Nat.le_refl _) (fun k _ hk => hA_old (o := .cells #[ptrV b6] 30) hk)
        have NP6 := NN6.push hTA sza sza (by intro y hy; simp at hy; have q1 := fun y h => (MN.row.2.1 y h).1; simp only [World.size_drew]; rcases hy with hy | hy | hy | hy; omega; (have := q1 y hy; omega); omega; omega) (by simp; omega) how6 hgr6 hat6 hlt6
        have K6 : Kp w.heap.size [br] w v6 := Kp.grown (kpa) (by simp; omega) hgr6 (fun k e => .inl (Nat.le_trans (by omega) (NN6.own_ge e)))
        have hrG := (hr6.alloc (.cells #[ptrV b6] 30)).grown hgr6 (fun k e => Nat.le_trans hlim (Nat.le_trans (by omega) (NN6.own_ge e)))
        have lt1G := M1G.lt
        have lt0G := M0G.lt
        replace hr := hrG.setCell (p := ⟨bd, 5, none⟩) (by simp; omega) (.slice (some ⟨g6, 0, none⟩) (bs.length + 1) cap6)
        replace K := K6.setCell (p := ⟨bd, 5, none⟩) (by left; simp; omega) (.slice (some ⟨g6, 0, none⟩) (bs.length + 1) cap6)
        replace M1 := M1G.other (c := bd) 5 (.slice (some ⟨g6, 0, none⟩) (bs.length + 1) cap6) (fun e => by have := MN.notin; simp [← e] at this)
        replace M0 := M0G.other (c := bd) 5 (.slice (some ⟨g6, 0, none⟩) (bs.length + 1) cap6) (fun e => by have := MN.notin; simp [← e] at this)
        replace MC := MCG.other (c := bd) 5 (.slice (some ⟨g6, 0, none⟩) (bs.length + 1) cap6) (by omega)
        replace MN := NP6.hide
        have szW : v6.heap.size ≤ (v6.setCell ⟨bd, 5, none⟩ (.slice (some ⟨g6, 0, none⟩) (bs.length + 1) cap6)).heap.size := by simp
        clear M16 M06 MN6 NN6 nr6 how6 hgr6 hat6 hlt6 d36 d46 M1G M0G m1g hTA hT6 NP6 K6 hrG hr6 hk6 m2 m3 m4 hHeld MC6 MCG mcg mc
        generalize v6.setCell ⟨bd, 5, none⟩ (.slice (some ⟨g6, 0, none⟩) (bs.length + 1) cap6) = W6 at *
        obtain ⟨sv, bs, MN⟩ := MN
        go_wp2
        go_roundg gk
        case measure => omega
        case rel => exact ⟨_, _, _, _, ⟨by omega, hA, by simp; omega⟩, hr, M0, M1, MC, MN, K⟩

theorem cf159 (cb : Nat) (w : World) : (callFunc 159 #[.pointer (some ⟨cb, 0, none⟩)]).run Tryz.prog w = .ok (.enter 159 #[.pointer (some ⟨cb, 0, none⟩)]) w := by kernel_rfl

set_option maxRecDepth 100000 in
set_option maxHeartbeats 400000 in
theorem block_step {k : Nat} (hE : ∀ j, j ≤ k → CStmt j) : CBlock (k + 1) := by
  intro toks en br lim pos dep w r hR hd hq
  have hlim := hR.limle
  have hbr := hR.lt
  rw [pBlock] at hq
  try dsimp only at hq
  by_cases c1 : isTok (tokAt toks en pos) kOpen = true
  · rw [if_pos c1] at hq
    have hp := isTok_lt c1
    have hi := is_c ((hR.alloc (.cells #[ptrV br] 73)).alloc (.cells #[.pointer none] 30)) ⟨#[123]⟩
    rw [mk_toList, show isTok (tokAt toks en pos) (#[123] : Array UInt8).toList = true from c1] at hi
    have hD : ∀ (w1 : World), Rdr toks en br lim pos dep w1 → Loc w1 w.heap.size (ptrV br) 73 → Calls Tryz.prog 158 #[.pointer (some ⟨br, 0, none⟩), .func (.func 159) #[] #[.pointer (some ⟨w.heap.size, 0, none⟩)]] w1 (PostN toks en br lim dep w1 r) := by
      intro w1 h1 hl
      have hll := hl.lt
      refine deeper_c h1 159 _ (cf159 _) hd r (fun h => ?_) (fun h w2 h2 k2 => ?_)
      · rw [if_pos h] at hq; cases hq; rfl
      · rw [if_neg (by omega)] at hq
        exact block1_c hE h2 h hp (hl.kp k2 (by omega) (by simp; omega)) hlim r hq
    clear hq c1 hE
    have : ¬ w.heap.size = br := sza
    have : ¬ br = w.heap.size := sza
    have : ¬ w.heap.size + 1 = w.heap.size := sza
    have : ¬ w.heap.size = w.heap.size + 1 := sza
    have : ¬ w.heap.size + 1 = br := sza
    have : ¬ br = w.heap.size + 1 := sza
    go_enter Tryz.func135, Tryz.ntmps135
    go_wp2_with fail
    refine (hi).mono ?_
    rintro e w1 ⟨rfl, hk1⟩
    have z1 := hk1.size
    try simp at z1
    have lc1_0 := fun o => hk1.cell (w.heap.size) o sza sza
    have lf1_0 := fun o => hk1.frozen (w.heap.size) o sza sza
    have ll1_0 : w.heap.size < w1.heap.size := sza
    try simp at lc1_0
    try simp at lf1_0
    have lb1_0 := hk1.block (w.heap.size) sza sza
    have lc1_1 := fun o => hk1.cell (w.heap.size + 1) o sza sza
    have lf1_1 := fun o => hk1.frozen (w.heap.size + 1) o sza sza
    have ll1_1 : w.heap.size + 1 < w1.heap.size := sza
    try simp at lc1_1
    try simp at lf1_1
    have lb1_1 := hk1.block (w.heap.size + 1) sza sza
    have hr1 : Rdr toks en br lim pos dep w1 := rda
    go_wp2_with fail
    refine (hD _ hr1 (loca)).mono ?_
    cases r with
    | stop a er =>
      rintro e w2 ⟨rfl, hk2⟩
      have z2 := hk2.size
      try simp at z2
      go_wp2
      exact ⟨rfl, rfl, kpa⟩
    | ok t p =>
      rintro e w2 ⟨b2, rfl, hT2, hr2, hk2⟩
      have z2 := hk2.size
      try simp at z2
      have lc2_0 := fun o => hk2.cell (w.heap.size) o sza sza
      have lf2_0 := fun o => hk2.frozen (w.heap.size) o sza sza
      have ll2_0 : w.heap.size < w2.heap.size := sza
      try simp at lc2_0
      try simp at lf2_0
      have lb2_0 := hk2.block (w.heap.size) sza sza
      have lc2_1 := fun o => hk2.cell (w.heap.size + 1) o sza sza
      have lf2_1 := fun o => hk2.frozen (w.heap.size + 1) o sza sza
      have ll2_1 : w.heap.size + 1 < w2.heap.size := sza
      try simp at lc2_1
      try simp at lf2_1
      have lb2_1 := hk2.block (w.heap.size + 1) sza sza
      go_wp2
      refine bodyPost_ret (v := .agg #[ptrV b2]) (by simp [results, Tryz.results135, go_sem, *]) rfl ?_
      refine ⟨b2, rfl, ?_, rda, kpa⟩
      refine IsT.frame sza sza (fun k hk hk' => ?_) _ _ hT2
      try simp at hk
      (repeat' (first | rfl | (rw [hS_ne (by first | omega | (simp; omega))]) | (rw [hA_old (by first | omega | (simp; omega))]) | (rw [hD]) | (rw [hDN])))
  · rw [if_neg c1] at hq
    rw [Bool.not_eq_true] at c1
    cases hq
    have hi := is_c ((hR.alloc (.cells #[ptrV br] 73)).alloc (.cells #[.pointer none] 30)) ⟨#[123]⟩
    rw [mk_toList, show isTok (tokAt toks en pos) (#[123] : Array UInt8).toList = false from c1] at hi
    have : ¬ w.heap.size = br := sza
    have : ¬ br = w.heap.size := sza
    go_enter Tryz.func135, Tryz.ntmps135
    go_wp2_with fail
    refine (hi).mono ?_
    rintro e w1 ⟨rfl, hk1⟩
    have z1 := hk1.size
    try simp at z1
    have lc1_0 := fun o => hk1.cell (w.heap.size) o sza sza
    have lf1_0 := fun o => hk1.frozen (w.heap.size) o sza sza
    have ll1_0 : w.heap.size < w1.heap.size := sza
    try simp at lc1_0
    try simp at lf1_0
    have lb1_0 := hk1.block (w.heap.size) sza sza
    go_wp2_with fail
    refine (fail_c (pos := pos) (dep := dep) (toks := toks) (en := en) (lim := lim) (rda)).mono ?_
    rintro e w2 ⟨rfl, hk2⟩
    have z2 := hk2.size
    try simp at z2
    go_wp2
    exact ⟨rfl, rfl, kpa⟩

end Go.Proofs.YtbplaekabeggkaaGreatDoor
