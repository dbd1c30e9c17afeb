/- PROVED: the law ParseBlanks of layer 4 answers true for every string, as its given card says (the listed package variables as the program lays them); no other condition. The parser, the lexer and the writer of the awake test are walked whole. Text 9 of 16. -/
import Derived.Test.YtbplaekabeggkaaGreatDoorG08
set_option linter.unusedSimpArgs false
set_option linter.unusedVariables false
namespace Go.Proofs.YtbplaekabeggkaaGreatDoor
open Go.RowKit

def partR (op : Int) : Res (Tok × List UInt8) → Res T
  | .ok x p => .ok (leafT op x) p
  | .stop a e => .stop a e
theorem part_n {toks : List Tok} {en : Int} {br lim pos dep : Nat} {w : World} (op : Int) (hR : Rdr toks en br lim pos dep w) (r : Res T) (hr : partR op (pPart toks en pos) = r) :
    Calls Tryz.prog 103 #[.pointer (some ⟨br, 0, none⟩), .int .i64 op] w (PostN toks en br lim dep w r) := by
  refine (part_c op hR _ rfl).mono ?_
  intro e w' h
  cases hX : pPart toks en pos with
  | stop a er => rw [hX] at h hr; subst hr; exact h
  | ok x p =>
    rw [hX] at h hr
    subst hr
    obtain ⟨b, h1, h2, rfl, h3, h4, h5⟩ := h
    refine ⟨b, rfl, ?_, h4, h5⟩
    exact (NodeB.leaf (lo := w.heap.size) (ex := []) h1 h2 (by simp) h3).isT rfl rfl

set_option maxRecDepth 100000 in
set_option maxHeartbeats 4000000 in
theorem func_c {k : Nat} {toks : List Tok} {en : Int} {br lim pos dep : Nat} {w : World} (hdep : dep = 0) (hB : CBlock k) (hR : Rdr toks en br lim pos dep w) (r : Res T) (hq : pFunc k toks en pos = some r) :
    Calls Tryz.prog 101 #[.pointer (some ⟨br, 0, none⟩)] w (PostN toks en br lim dep w r) := by
  have hlim := hR.limle
  have hbr := hR.lt
  have hsm := hR.small
  have HDP := Lib.hid hdep
  have hd : dep ≤ 40 := by omega
  clear hdep
  unfold pFunc at hq
  dsimp only at hq
  have D := hR
  have Dm := D.limle
  have K := Kp.refl w.heap.size [br] w
  clear hR
  by_cases ck : (tokAt toks en pos).kind = 1
  rotate_left
  · rw [if_neg ck] at hq
    cases hq
    go_enter Tryz.func101, Tryz.ntmps101
    go_wp2_with fail
    refine (word_no (toks := toks) (en := en) (lim := lim) (dep := dep) (pos := pos) (rda) ck).mono ?_
    rintro e w1 ⟨rfl, hk1⟩
    have z1 := hk1.size
    try simp at z1
    go_wp2
    exact ⟨rfl, rfl, kpa⟩
  rw [if_pos ck] at hq
  have CK := Lib.hid ck
  clear ck
  go_enter Tryz.func101, Tryz.ntmps101
  go_wp2_with fail
  refine (word_yes (toks := toks) (en := en) (lim := lim) (dep := dep) (pos := pos) (rda) CK.out).mono ?_
  rintro e w1 ⟨rfl, D1, hk1⟩
  have z1 := hk1.size
  try simp at z1
  replace R : Loc w1 w.heap.size (.pointer none) 30 := loca
  replace Rc := R.cell
  replace Rl := R.lt
  have Rl_w1 := Rl
  replace Rf := R.frozen
  replace K : Kp w.heap.size [br] w w1 := kpa
  replace Kz := K.size
  have Kz_w1 := Kz
  clear hk1 D
  have D := D1
  clear D1
  replace Dm := D.limle
  go_wp2_with fail
  refine (node_c _ _ _ _ _ _ _ _).mono ?_
  rintro e w2 ⟨rfl, s2, c2, hk2⟩
  have z2 := hk2.size
  try simp at s2
  try simp at z2
  try simp at c2
  have z2' := Nat.le_of_eq s2.symm
  have N : NodeB w2 w.heap.size [w.heap.size, w2.heap.size] (w1.heap.size + 2) 4 (B (tokAt toks en pos).text) ⟨#[]⟩ 0 (tokAt toks en pos).at_ (.slice none 0 0) [] [] := NodeB.leaf (by omega) (by omega) (by simp; omega) c2
  clear s2 c2
  replace D : Rdr toks en br lim (pos + 1) dep w2 := rda
  replace Dm := D.limle
  replace R : Loc w2 w.heap.size (.pointer none) 30 := loca
  replace Rc := R.cell
  replace Rl := R.lt
  have Rl_w2 := Rl
  replace Rf := R.frozen
  replace K : Kp w.heap.size [br] w w2 := kpa
  replace Kz := K.size
  have Kz_w2 := Kz
  clear hk2
  have L := Loc.new w2 (ptrV (w1.heap.size + 2)) 30
  have hnn : w.heap.size < w2.heap.size := Rl_w2
  have hb0 : w.heap.size ≤ w1.heap.size + 2 := by omega
  have hb1 : w1.heap.size + 2 < w2.heap.size := by omega
  by_cases c1 : isTok (tokAt toks en (pos + 1)) kLpar = true
  rotate_left
  · rw [if_neg c1] at hq
    rw [Bool.not_eq_true] at c1
    cases hq
    go_wp2_with fail
    refine (expect_no (toks := toks) (en := en) (lim := lim) (dep := dep) (pos := pos + 1) (rda) ⟨#[40]⟩ (by rw [mk_toList]; exact c1)).mono ?_
    rintro e w3 ⟨rfl, hk3⟩
    have z3 := hk3.size
    try simp at z3
    go_wp2
    exact ⟨rfl, rfl, kpa⟩
  rw [if_pos c1] at hq
  cases hX : pParams k toks en [] (pos + 2) with
  | none => rw [hX] at hq; cases hq
  | some x =>
  rw [hX] at hq
  have HM := Lib.hid hX
  clear hX
  go_wp2_with fail
  refine (expect_yes (toks := toks) (en := en) (lim := lim) (dep := dep) (pos := pos + 1) (rda) ⟨#[40]⟩ (by rw [mk_toList]; exact c1)).mono ?_
  rintro e w3 ⟨rfl, D3, hk3⟩
  have z3 := hk3.size
  try simp at z3
  replace R : Loc w3 w.heap.size (.pointer none) 30 := loca
  replace Rc := R.cell
  replace Rl := R.lt
  have Rl_w3 := Rl
  replace Rf := R.frozen
  replace N : NodeB w3 w.heap.size [w.heap.size, w2.heap.size] (w1.heap.size + 2) 4 (B (tokAt toks en pos).text) ⟨#[]⟩ 0 (tokAt toks en pos).at_ (.slice none 0 0) [] [] := nba
  replace Nl := N.lt
  replace L : Loc w3 w2.heap.size (ptrV (w1.heap.size + 2)) 30 := loca
  replace Lc := L.cell
  replace Ll := L.lt
  have Ll_w3 := Ll
  replace Lf := L.frozen
  replace K : Kp w.heap.size [br] w w3 := kpa
  replace Kz := K.size
  have Kz_w3 := Kz
  clear hk3 D
  have D := D3
  clear D3
  replace Dm := D.limle
  generalize w2.heap.size = nv at *
  generalize w1.heap.size + 2 = bd at *
  go_wp2_with fail
  go_loopg [] k (fun j wr => ∃ p acc sv bs, Go.Aside (j ≤ k ∧ pParams j toks en acc p = some x ∧ acc.length ≤ p) ∧ Rdr toks en br lim p dep wr ∧ Loc wr w.heap.size (.pointer none) 30 ∧ Loc wr nv (ptrV bd) 30 ∧
    NodeB wr w.heap.size [w.heap.size, nv] bd 4 (B (tokAt toks en pos).text) ⟨#[]⟩ 0 (tokAt toks en pos).at_ sv bs acc ∧ Kp w.heap.size [br] w wr)
  case atStart => exact ⟨_, _, _, _, ⟨Nat.le_refl _, HM.out, by simp⟩, D, R, L, N, K⟩
  case round =>
    obtain ⟨p, acc, sv, bs, A, rR, rL0, rL1, rN, rK⟩ := hrel
    obtain ⟨hjk, hA, hAl⟩ := A.out
    have rl0 := rL0.lt
    have rl1 := rL1.lt
    have rz := rK.size
    have rle := rN.lo_le
    clear A HM D R L N K
    have D := rR
    have Dm := D.limle
    have R := rL0
    have Rc := R.cell
    have Rl := R.lt
    have Rf := R.frozen
    have L := rL1
    have Lc := L.cell
    have Ll := L.lt
    have N := rN
    have K := rK
    have hlen : acc.length ≤ 100000 := by have := rR.posle; omega
    clear rR rL0 rL1 rN rK
    cases gk with
    | zero => simp [pParams] at hA
    | succ gk =>
    rw [pParams] at hA
    by_cases c2 : isTok (tokAt toks en p) kRpar = true
    rotate_left
    · rw [if_neg c2] at hA
      rw [Bool.not_eq_true] at c2
      have HE := fun w1 (h1 : Rdr toks en br lim p dep w1) => part_n (dep := dep) 5 h1 _ rfl
      cases hX : pPart toks en p with
      | stop a er =>
        rw [hX] at hA HE
        cases hA
        cases hq
        go_wp2_with fail
        refine ((is_c (pos := p) (dep := dep) (toks := toks) (en := en) (lim := lim) (rda) ⟨#[41]⟩).mono ?_)
        rw [mk_toList, show isTok _ (#[41] : Array UInt8).toList = false from c2]
        rintro e w5 ⟨rfl, hk5⟩
        have z5 := hk5.size
        try simp at z5
        replace D : Rdr toks en br lim p dep w5 := rda
        replace Dm := D.limle
        replace R : Loc w5 w.heap.size (.pointer none) 30 := loca
        replace Rc := R.cell
        replace Rl := R.lt
        have Rl_w5 := Rl
        replace Rf := R.frozen
        replace L : Loc w5 nv (ptrV bd) 30 := loca
        replace Lc := L.cell
        replace Ll := L.lt
        have Ll_w5 := Ll
        replace Lf := L.frozen
        replace N : NodeB w5 w.heap.size [w.heap.size, nv] bd 4 (B (tokAt toks en pos).text) ⟨#[]⟩ 0 (tokAt toks en pos).at_ sv bs acc := nba
        replace Nl := N.lt
        replace K : Kp w.heap.size [br] w w5 := kpa
        replace Kz := K.size
        have Kz_w5 := Kz
        clear hk5
        have M0 := R
        have M1 := L
        have MN := N
        have hr := D
        have ml := MN.lt
        have mle := MN.lo_le
        have ml1 := M1.lt
        have ml0 := M0.lt
        have mz := K.size
        have m2 := M1.cell
        obtain ⟨m3, m4, -⟩ := MN.cell
        go_wp2_with fail
        refine wp_region_U (S := (fun W => W.cell? ⟨nv, 0, none⟩ = some (ptrV bd) ∧ W.cell? ⟨bd, 5, none⟩ = some sv)) (F := [11,12,13]) (by kernel_rfl) ⟨m2, m3⟩ (fun hHeld => ?_)
        refine tkU 0 (v := ?_) rfl (by kernel_rfl) (fun _ _ _ h => h) (Or.inl ⟨by rfl, ?_⟩) (by assumption) ?_
        rotate_left
        · intro w hSw; (try dsimp only at hSw); go_simp; try with_reducible rfl
        try simp only [Act.put, pz]
        refine tkU 1 (v := ?_) rfl (by kernel_rfl) (fun _ _ _ h => h) (Or.inl ⟨by rfl, ?_⟩) (by assumption) ?_
        rotate_left
        · intro w hSw; (try dsimp only at hSw); go_simp; try with_reducible rfl
        try simp only [Act.put, pz]
        refine tkU 2 (v := ?_) rfl (by kernel_rfl) (fun _ _ _ h => h) (Or.inl ⟨by rfl, ?_⟩) (by assumption) ?_
        rotate_left
        · intro w hSw; (try dsimp only at hSw); go_simp; try with_reducible rfl
        try simp only [Act.put, pz]
        refine tkU 3 (v := ?_) rfl (by kernel_rfl) (fun _ _ _ h => h) (Or.inl ⟨by rfl, ?_⟩) (by assumption) ?_
        rotate_left
        · intro w hSw; (try dsimp only at hSw); go_simp; try with_reducible rfl
        try simp only [Act.put, pz]
        refine tkU 4 (v := ?_) rfl (by kernel_rfl) (fun _ _ _ h => h) (Or.inl ⟨by rfl, ?_⟩) (by assumption) ?_
        rotate_left
        · intro w hSw; (try dsimp only at hSw); go_simp; try with_reducible rfl
        try simp only [Act.put, pz]
        refine tkU 5 (v := ?_) rfl (by kernel_rfl) (fun _ _ _ h => h) (Or.inl ⟨by rfl, ?_⟩) (by assumption) ?_
        rotate_left
        · intro w hSw; (try dsimp only at hSw); go_simp; try with_reducible rfl
        try simp only [Act.put, pz]
        refine tkU 6 (v := ?_) rfl (by kernel_rfl) (fun _ _ _ h => h) (Or.inl ⟨by rfl, ?_⟩) (by assumption) ?_
        rotate_left
        · intro w hSw; (try dsimp only at hSw); go_simp; try with_reducible rfl
        try simp only [Act.put, pz]
        refine tkU 7 (v := ?_) rfl (by kernel_rfl) (fun _ _ _ h => h) (Or.inl ⟨by rfl, ?_⟩) (by assumption) ?_
        rotate_left
        · intro w hSw; (try dsimp only at hSw); go_simp; try with_reducible rfl
        try simp only [Act.put, pz]
        refine wpAnyU_one (i := 8) (by kernel_rfl) rfl rfl (fun K1 hK => ?_)
        go_simp
        refine (HE _ (rda)).mono ?_
        clear hK
        rintro e w6 ⟨rfl, hk6⟩
        have z6 := hk6.size
        try simp at z6
        go_wp2
        exact ⟨rfl, rfl, kpa⟩
      | ok y p' =>
        have hlt := pPart_lt hX
        rw [hX] at hA HE
        dsimp only [partR] at hA HE
        go_wp2_with fail
        refine ((is_c (pos := p) (dep := dep) (toks := toks) (en := en) (lim := lim) (rda) ⟨#[41]⟩).mono ?_)
        rw [mk_toList, show isTok _ (#[41] : Array UInt8).toList = false from c2]
        rintro e w5 ⟨rfl, hk5⟩
        have z5 := hk5.size
        try simp at z5
        replace D : Rdr toks en br lim p dep w5 := rda
        replace Dm := D.limle
        replace R : Loc w5 w.heap.size (.pointer none) 30 := loca
        replace Rc := R.cell
        replace Rl := R.lt
        have Rl_w5 := Rl
        replace Rf := R.frozen
        replace L : Loc w5 nv (ptrV bd) 30 := loca
        replace Lc := L.cell
        replace Ll := L.lt
        have Ll_w5 := Ll
        replace Lf := L.frozen
        replace N : NodeB w5 w.heap.size [w.heap.size, nv] bd 4 (B (tokAt toks en pos).text) ⟨#[]⟩ 0 (tokAt toks en pos).at_ sv bs acc := nba
        replace Nl := N.lt
        replace K : Kp w.heap.size [br] w w5 := kpa
        replace Kz := K.size
        have Kz_w5 := Kz
        clear hk5
        have M0 := R
        have M1 := L
        have MN := N
        have hr := D
        clear R L D N
        have ml := MN.lt
        have mle := MN.lo_le
        have ml1 := M1.lt
        have ml0 := M0.lt
        have mz := K.size
        have m2 := M1.cell
        obtain ⟨m3, m4, -⟩ := MN.cell
        go_wp2_with fail
        refine wp_region_U (S := (fun W => W.cell? ⟨nv, 0, none⟩ = some (ptrV bd) ∧ W.cell? ⟨bd, 5, none⟩ = some sv)) (F := [11,12,13]) (by kernel_rfl) ⟨m2, m3⟩ (fun hHeld => ?_)
        refine tkU 0 (v := ?_) rfl (by kernel_rfl) (fun _ _ _ h => h) (Or.inl ⟨by rfl, ?_⟩) (by assumption) ?_
        rotate_left
        · intro w hSw; (try dsimp only at hSw); go_simp; try with_reducible rfl
        try simp only [Act.put, pz]
        refine tkU 1 (v := ?_) rfl (by kernel_rfl) (fun _ _ _ h => h) (Or.inl ⟨by rfl, ?_⟩) (by assumption) ?_
        rotate_left
        · intro w hSw; (try dsimp only at hSw); go_simp; try with_reducible rfl
        try simp only [Act.put, pz]
        refine tkU 2 (v := ?_) rfl (by kernel_rfl) (fun _ _ _ h => h) (Or.inl ⟨by rfl, ?_⟩) (by assumption) ?_
        rotate_left
        · intro w hSw; (try dsimp only at hSw); go_simp; try with_reducible rfl
        try simp only [Act.put, pz]
        refine tkU 3 (v := ?_) rfl (by kernel_rfl) (fun _ _ _ h => h) (Or.inl ⟨by rfl, ?_⟩) (by assumption) ?_
        rotate_left
        · intro w hSw; (try dsimp only at hSw); go_simp; try with_reducible rfl
        try simp only [Act.put, pz]
        refine tkU 4 (v := ?_) rfl (by kernel_rfl) (fun _ _ _ h => h) (Or.inl ⟨by rfl, ?_⟩) (by assumption) ?_
        rotate_left
        · intro w hSw; (try dsimp only at hSw); go_simp; try with_reducible rfl
        try simp only [Act.put, pz]
        refine tkU 5 (v := ?_) rfl (by kernel_rfl) (fun _ _ _ h => h) (Or.inl ⟨by rfl, ?_⟩) (by assumption) ?_
        rotate_left
        · intro w hSw; (try dsimp only at hSw); go_simp; try with_reducible rfl
        try simp only [Act.put, pz]
        refine tkU 6 (v := ?_) rfl (by kernel_rfl) (fun _ _ _ h => h) (Or.inl ⟨by rfl, ?_⟩) (by assumption) ?_
        rotate_left
        · intro w hSw; (try dsimp only at hSw); go_simp; try with_reducible rfl
        try simp only [Act.put, pz]
        refine tkU 7 (v := ?_) rfl (by kernel_rfl) (fun _ _ _ h => h) (Or.inl ⟨by rfl, ?_⟩) (by assumption) ?_
        rotate_left
        · intro w hSw; (try dsimp only at hSw); go_simp; try with_reducible rfl
        try simp only [Act.put, pz]
        refine wpAnyU_one (i := 8) (by kernel_rfl) rfl rfl (fun K1 hK => ?_)
        go_simp
        refine (HE _ (rda)).mono ?_
        rintro e w6 ⟨b6, rfl, hT6, hr6, hk6⟩
        have z6 := hk6.size
        try simp at z6
        have M16 := M1.drew.kp hk6 sza sza
        have M06 := M0.drew.kp hk6 sza sza
        have MN6 := MN.drew.kp hk6 sza (by simp; omega)
        try dsimp only
        refine hK.out _ _ ?_ ?_
        · intro _; exact ⟨M16.cell, MN6.cell.1⟩
        clear hK K1
        try simp only [Act.put, pz]
        refine wpAnyU_one (i := 9) (by kernel_rfl) rfl rfl (fun K1 hK => ?_)
        go_simp
        refine hK.out _ _ ?_ ?_
        · intro _; exact ⟨(M16.alloc _).cell, (MN6.alloc _).cell.1⟩
        clear hK K1
        try simp only [Act.put, pz]
        have NN6 := MN6.alloc (.cells #[ptrV b6] 30)
        have nr6 := NN6.row
        refine wpAnyU_one (i := 10) (by kernel_rfl) rfl rfl (fun K1 hK => ?_)
        refine app_node 18 21 rfl _ sv bs b6 rfl nr6.1 ⟨w6.heap.size, 0, none⟩ rfl (by simp) (by rw [Kids.len _ _ nr6.2.2]; exact hlen) (by simp; omega) ?_
        intro g6 cap6 v6 how6 hgr6 hat6 hlt6
        obtain ⟨d36, d46⟩ := NN6.grown5 hgr6
        have M1G := (M16.alloc (.cells #[ptrV b6] 30)).grown hgr6 (NN6.exne (by simp))
        have M0G := (M06.alloc (.cells #[ptrV b6] 30)).grown hgr6 (NN6.exne (by simp))
        have m1g := M1G.cell
        have sG := hgr6.size
        simp at sG
        refine hK.out _ _ ?_ ?_
        · intro _; exact ⟨m1g, d36⟩
        clear hK K1
        try simp only [Act.put, pz]
        refine wpAnyU_one (i := 11) (by kernel_rfl) rfl rfl (fun K1 hK => ?_)
        go_simp
        refine hK.out _ _ ?_ ?_
        · intro hF; exact absurd hF (by decide)
        clear hK K1
        try simp only [Act.put, pz]
        refine wpAnyU_one (i := 12) (by kernel_rfl) rfl rfl (fun K1 hK => ?_)
        go_simp
        refine hK.out _ _ ?_ ?_
        · intro hF; exact absurd hF (by decide)
        clear hK K1
        try simp only [Act.put, pz]
        refine wpAnyU_one (i := 13) (by kernel_rfl) rfl rfl (fun K1 hK => ?_)
        go_simp
        refine hK.out _ _ ?_ ?_
        · intro hF; exact absurd hF (by decide)
        clear hK K1
        try simp only [Act.put, pz]
        refine wpAnyU_done (by kernel_rfl) ?_ _
        have hTA := hT6.frame (Nat.le_refl _) (Nat.le_refl _) (fun k _ hk => hA_old (o := .cells #[ptrV b6] 30) hk)
        have NP6 := NN6.push hTA sza sza (by intro y hy; simp at hy; have q1 := fun y h => (MN.row.2.1 y h).1; simp only [World.size_drew]; rcases hy with hy | hy | hy | hy; omega; (have := q1 y hy; omega); omega; omega) (by simp; omega) how6 hgr6 hat6 hlt6
        have K6 : Kp w.heap.size [br] w v6 := Kp.grown (kpa) (by simp; omega) hgr6 (fun k e => .inl (Nat.le_trans (by omega) (NN6.own_ge e)))
        have hrG := (hr6.alloc (.cells #[ptrV b6] 30)).grown hgr6 (fun k e => Nat.le_trans hlim (Nat.le_trans (by omega) (NN6.own_ge e)))
        have lt1G := M1G.lt
        have lt0G := M0G.lt
        replace hr := hrG.setCell (p := ⟨bd, 5, none⟩) (by simp; omega) (.slice (some ⟨g6, 0, none⟩) (bs.length + 1) cap6)
        replace K := K6.setCell (p := ⟨bd, 5, none⟩) (by left; simp; omega) (.slice (some ⟨g6, 0, none⟩) (bs.length + 1) cap6)
        replace M1 := M1G.other (c := bd) 5 (.slice (some ⟨g6, 0, none⟩) (bs.length + 1) cap6) (fun e => by have := MN.notin; simp [← e] at this)
        replace M0 := M0G.other (c := bd) 5 (.slice (some ⟨g6, 0, none⟩) (bs.length + 1) cap6) (fun e => by have := MN.notin; simp [← e] at this)
        replace MN := NP6.hide
        have szW : v6.heap.size ≤ (v6.setCell ⟨bd, 5, none⟩ (.slice (some ⟨g6, 0, none⟩) (bs.length + 1) cap6)).heap.size := by simp
        clear M16 M06 MN6 NN6 nr6 how6 hgr6 hat6 hlt6 d36 d46 M1G M0G m1g hTA hT6 NP6 K6 hrG hr6 hk6 m2 m3 m4 hHeld
        generalize v6.setCell ⟨bd, 5, none⟩ (.slice (some ⟨g6, 0, none⟩) (bs.length + 1) cap6) = W6 at *
        obtain ⟨sv, bs, MN⟩ := MN
        have D := hr
        have R := M0
        have L := M1
        have N := MN
        have Rc := R.cell
        have Rl := R.lt
        have Rf := R.frozen
        have Lc := L.cell
        have Ll := L.lt
        have Dm := D.limle
        clear hr M0 M1 MN HE
        by_cases c3 : isTok (tokAt toks en p') kRpar = true
        · rw [if_pos c3] at hA
          go_wp2_with fail
          refine ((is_c (pos := p') (dep := dep) (toks := toks) (en := en) (lim := lim) (rda) ⟨#[41]⟩).mono ?_)
          rw [mk_toList, show isTok _ (#[41] : Array UInt8).toList = true from c3]
          rintro e w7 ⟨rfl, hk7⟩
          have z7 := hk7.size
          try simp at z7
          replace R : Loc w7 w.heap.size (.pointer none) 30 := loca
          replace Rc := R.cell
          replace Rl := R.lt
          have Rl_w7 := Rl
          replace Rf := R.frozen
          replace L : Loc w7 nv (ptrV bd) 30 := loca
          replace Lc := L.cell
          replace Ll := L.lt
          have Ll_w7 := Ll
          replace Lf := L.frozen
          replace D : Rdr toks en br lim p' dep w7 := rda
          replace Dm := D.limle
          replace N : NodeB w7 w.heap.size [w.heap.size, nv] bd 4 (B (tokAt toks en pos).text) ⟨#[]⟩ 0 (tokAt toks en pos).at_ sv bs (acc ++ [leafT 5 y]) := nba
          replace Nl := N.lt
          replace K : Kp w.heap.size [br] w w7 := kpa
          replace Kz := K.size
          have Kz_w7 := Kz
          clear hk7
          go_wp2
          go_roundg gk
          case measure => omega
          case rel => exact ⟨_, _, _, _, ⟨by omega, hA, by simp; omega⟩, D, R, L, N, K⟩
        · rw [if_neg c3] at hA
          rw [Bool.not_eq_true] at c3
          by_cases c4 : isTok (tokAt toks en p') kComma = true
          · rw [if_pos c4] at hA
            by_cases c5 : isTok (tokAt toks en (p' + 1)) kRpar = true
            · rw [if_pos c5] at hA
              cases hA
              cases hq
              go_wp2_with fail
              refine ((is_c (pos := p') (dep := dep) (toks := toks) (en := en) (lim := lim) (rda) ⟨#[41]⟩).mono ?_)
              rw [mk_toList, show isTok _ (#[41] : Array UInt8).toList = false from c3]
              rintro e w7 ⟨rfl, hk7⟩
              have z7 := hk7.size
              try simp at z7
              replace R : Loc w7 w.heap.size (.pointer none) 30 := loca
              replace Rc := R.cell
              replace Rl := R.lt
              have Rl_w7 := Rl
              replace Rf := R.frozen
              replace L : Loc w7 nv (ptrV bd) 30 := loca
              replace Lc := L.cell
              replace Ll := L.lt
              have Ll_w7 := Ll
              replace Lf := L.frozen
              replace D : Rdr toks en br lim p' dep w7 := rda
              replace Dm := D.limle
              replace N : NodeB w7 w.heap.size [w.heap.size, nv] bd 4 (B (tokAt toks en pos).text) ⟨#[]⟩ 0 (tokAt toks en pos).at_ sv bs (acc ++ [leafT 5 y]) := nba
              replace Nl := N.lt
              replace K : Kp w.heap.size [br] w w7 := kpa
              replace Kz := K.size
              have Kz_w7 := Kz
              clear hk7
              go_wp2_with fail
              refine (expect_yes D ⟨#[44]⟩ (by rw [mk_toList]; exact c4)).mono ?_
              rintro e w8 ⟨rfl, D8, hk8⟩
              have z8 := hk8.size
              try simp at z8
              replace R : Loc w8 w.heap.size (.pointer none) 30 := loca
              replace Rc := R.cell
              replace Rl := R.lt
              have Rl_w8 := Rl
              replace Rf := R.frozen
              replace L : Loc w8 nv (ptrV bd) 30 := loca
              replace Lc := L.cell
              replace Ll := L.lt
              have Ll_w8 := Ll
              replace Lf := L.frozen
              replace N : NodeB w8 w.heap.size [w.heap.size, nv] bd 4 (B (tokAt toks en pos).text) ⟨#[]⟩ 0 (tokAt toks en pos).at_ sv bs (acc ++ [leafT 5 y]) := nba
              replace Nl := N.lt
              replace K : Kp w.heap.size [br] w w8 := kpa
              replace Kz := K.size
              have Kz_w8 := Kz
              clear hk8 D
              have D := D8
              clear D8
              replace Dm := D.limle
              go_wp2_with fail
              refine ((is_c (pos := p' + 1) (dep := dep) (toks := toks) (en := en) (lim := lim) (rda) ⟨#[41]⟩).mono ?_)
              rw [mk_toList, show isTok _ (#[41] : Array UInt8).toList = true from c5]
              rintro e w9 ⟨rfl, hk9⟩
              have z9 := hk9.size
              try simp at z9
              replace R : Loc w9 w.heap.size (.pointer none) 30 := loca
              replace Rc := R.cell
              replace Rl := R.lt
              have Rl_w9 := Rl
              replace Rf := R.frozen
              replace L : Loc w9 nv (ptrV bd) 30 := loca
              replace Lc := L.cell
              replace Ll := L.lt
              have Ll_w9 := Ll
              replace Lf := L.frozen
              replace D : Rdr toks en br lim (p' + 1) dep w9 := rda
              replace Dm := D.limle
              replace N : NodeB w9 w.heap.size [w.heap.size, nv] bd 4 (B (tokAt toks en pos).text) ⟨#[]⟩ 0 (tokAt toks en pos).at_ sv bs (acc ++ [leafT 5 y]) := nba
              replace Nl := N.lt
              replace K : Kp w.heap.size [br] w w9 := kpa
              replace Kz := K.size
              have Kz_w9 := Kz
              clear hk9
              go_wp2_with fail
              refine (fail_c D).mono ?_
              rintro e w10 ⟨rfl, hk10⟩
              have z10 := hk10.size
              try simp at z10
              go_wp2
              exact ⟨rfl, rfl, kpa⟩
            · rw [if_neg c5] at hA
              rw [Bool.not_eq_true] at c5
              go_wp2_with fail
              refine ((is_c (pos := p') (dep := dep) (toks := toks) (en := en) (lim := lim) (rda) ⟨#[41]⟩).mono ?_)
              rw [mk_toList, show isTok _ (#[41] : Array UInt8).toList = false from c3]
              rintro e w7 ⟨rfl, hk7⟩
              have z7 := hk7.size
              try simp at z7
              replace R : Loc w7 w.heap.size (.pointer none) 30 := loca
              replace Rc := R.cell
              replace Rl := R.lt
              have Rl_w7 := Rl
              replace Rf := R.frozen
              replace L : Loc w7 nv (ptrV bd) 30 := loca
              replace Lc := L.cell
              replace Ll := L.lt
              have Ll_w7 := Ll
              replace Lf := L.frozen
              replace D : Rdr toks en br lim p' dep w7 := rda
              replace Dm := D.limle
              replace N : NodeB w7 w.heap.size [w.heap.size, nv] bd 4 (B (tokAt toks en pos).text) ⟨#[]⟩ 0 (tokAt toks en pos).at_ sv bs (acc ++ [leafT 5 y]) := nba
              replace Nl := N.lt
              replace K : Kp w.heap.size [br] w w7 := kpa
              replace Kz := K.size
              have Kz_w7 := Kz
              clear hk7
              go_wp2_with fail
              refine (expect_yes D ⟨#[44]⟩ (by rw [mk_toList]; exact c4)).mono ?_
              rintro e w8 ⟨rfl, D8, hk8⟩
              have z8 := hk8.size
              try simp at z8
              replace R : Loc w8 w.heap.size (.pointer none) 30 := loca
              replace Rc := R.cell
              replace Rl := R.lt
              have Rl_w8 := Rl
              replace Rf := R.frozen
              replace L : Loc w8 nv (ptrV bd) 30 := loca
              replace Lc := L.cell
              replace Ll := L.lt
              have Ll_w8 := Ll
              replace Lf := L.frozen
              replace N : NodeB w8 w.heap.size [w.heap.size, nv] bd 4 (B (tokAt toks en pos).text) ⟨#[]⟩ 0 (tokAt toks en pos).at_ sv bs (acc ++ [leafT 5 y]) := nba
              replace Nl := N.lt
              replace K : Kp w.heap.size [br] w w8 := kpa
              replace Kz := K.size
              have Kz_w8 := Kz
              clear hk8 D
              have D := D8
              clear D8
              replace Dm := D.limle
              go_wp2_with fail
              refine ((is_c (pos := p' + 1) (dep := dep) (toks := toks) (en := en) (lim := lim) (rda) ⟨#[41]⟩).mono ?_)
              rw [mk_toList, show isTok _ (#[41] : Array UInt8).toList = false from c5]
              rintro e w9 ⟨rfl, hk9⟩
              have z9 := hk9.size
              try simp at z9
              replace R : Loc w9 w.heap.size (.pointer none) 30 := loca
              replace Rc := R.cell
              replace Rl := R.lt
              have Rl_w9 := Rl
              replace Rf := R.frozen
              replace L : Loc w9 nv (ptrV bd) 30 := loca
              replace Lc := L.cell
              replace Ll := L.lt
              have Ll_w9 := Ll
              replace Lf := L.frozen
              replace D : Rdr toks en br lim (p' + 1) dep w9 := rda
              replace Dm := D.limle
              replace N : NodeB w9 w.heap.size [w.heap.size, nv] bd 4 (B (tokAt toks en pos).text) ⟨#[]⟩ 0 (tokAt toks en pos).at_ sv bs (acc ++ [leafT 5 y]) := nba
              replace Nl := N.lt
              replace K : Kp w.heap.size [br] w w9 := kpa
              replace Kz := K.size
              have Kz_w9 := Kz
              clear hk9
              go_wp2
              go_roundg gk
              case measure => omega
              case rel => exact ⟨_, _, _, _, ⟨by omega, hA, by simp; omega⟩, D, R, L, N, K⟩
          · rw [if_neg c4] at hA
            rw [Bool.not_eq_true] at c4
            cases hA
            cases hq
            go_wp2_with fail
            refine ((is_c (pos := p') (dep := dep) (toks := toks) (en := en) (lim := lim) (rda) ⟨#[41]⟩).mono ?_)
            rw [mk_toList, show isTok _ (#[41] : Array UInt8).toList = false from c3]
            rintro e w7 ⟨rfl, hk7⟩
            have z7 := hk7.size
            try simp at z7
            replace R : Loc w7 w.heap.size (.pointer none) 30 := loca
            replace Rc := R.cell
            replace Rl := R.lt
            have Rl_w7 := Rl
            replace Rf := R.frozen
            replace L : Loc w7 nv (ptrV bd) 30 := loca
            replace Lc := L.cell
            replace Ll := L.lt
            have Ll_w7 := Ll
            replace Lf := L.frozen
            replace D : Rdr toks en br lim p' dep w7 := rda
            replace Dm := D.limle
            replace N : NodeB w7 w.heap.size [w.heap.size, nv] bd 4 (B (tokAt toks en pos).text) ⟨#[]⟩ 0 (tokAt toks en pos).at_ sv bs (acc ++ [leafT 5 y]) := nba
            replace Nl := N.lt
            replace K : Kp w.heap.size [br] w w7 := kpa
            replace Kz := K.size
            have Kz_w7 := Kz
            clear hk7
            go_wp2_with fail
            refine (expect_no D ⟨#[44]⟩ (by rw [mk_toList]; exact c4)).mono ?_
            rintro e w8 ⟨rfl, hk8⟩
            have z8 := hk8.size
            try simp at z8
            go_wp2
            exact ⟨rfl, rfl, kpa⟩
    rw [if_pos c2] at hA
    cases hA
    dsimp only at hq
    go_wp2_with fail
    refine ((is_c (pos := p) (dep := dep) (toks := toks) (en := en) (lim := lim) (rda) ⟨#[41]⟩).mono ?_)
    rw [mk_toList, show isTok _ (#[41] : Array UInt8).toList = true from c2]
    rintro e w5 ⟨rfl, hk5⟩
    have z5 := hk5.size
    try simp at z5
    replace D : Rdr toks en br lim p dep w5 := rda
    replace Dm := D.limle
    replace R : Loc w5 w.heap.size (.pointer none) 30 := loca
    replace Rc := R.cell
    replace Rl := R.lt
    have Rl_w5 := Rl
    replace Rf := R.frozen
    replace L : Loc w5 nv (ptrV bd) 30 := loca
    replace Lc := L.cell
    replace Ll := L.lt
    have Ll_w5 := Ll
    replace Lf := L.frozen
    replace N : NodeB w5 w.heap.size [w.heap.size, nv] bd 4 (B (tokAt toks en pos).text) ⟨#[]⟩ 0 (tokAt toks en pos).at_ sv bs acc := nba
    replace Nl := N.lt
    replace K : Kp w.heap.size [br] w w5 := kpa
    replace Kz := K.size
    have Kz_w5 := Kz
    clear hk5
    go_wp2_with fail
    refine (expect_yes D ⟨#[41]⟩ (by rw [mk_toList]; exact c2)).mono ?_
    rintro e w6 ⟨rfl, D6, hk6⟩
    have z6 := hk6.size
    try simp at z6
    replace R : Loc w6 w.heap.size (.pointer none) 30 := loca
    replace Rc := R.cell
    replace Rl := R.lt
    have Rl_w6 := Rl
    replace Rf := R.frozen
    replace L : Loc w6 nv (ptrV bd) 30 := loca
    replace Lc := L.cell
    replace Ll := L.lt
    have Ll_w6 := Ll
    replace Lf := L.frozen
    replace N : NodeB w6 w.heap.size [w.heap.size, nv] bd 4 (B (tokAt toks en pos).text) ⟨#[]⟩ 0 (tokAt toks en pos).at_ sv bs acc := nba
    replace Nl := N.lt
    replace K : Kp w.heap.size [br] w w6 := kpa
    replace Kz := K.size
    have Kz_w6 := Kz
    clear hk6 D
    have D := D6
    clear D6
    replace Dm := D.limle
    by_cases c3 : isTok (tokAt toks en (p + 1)) kOpen = true
    · rw [if_pos c3] at hq
      dsimp only at hq
      cases hZ : pBlock k toks en 0 (p + 1) with
      | none => rw [hZ] at hq; cases hq
      | some z =>
      rw [hZ] at hq
      have HZ := fun w1 (h1 : Rdr toks en br lim (p + 1) dep w1) => hB toks en br lim (p + 1) dep w1 z h1 hd (HDP.out ▸ hZ)
      clear hZ hB
      go_wp2_with fail
      refine ((is_c (pos := p + 1) (dep := dep) (toks := toks) (en := en) (lim := lim) (rda) ⟨#[123]⟩).mono ?_)
      rw [mk_toList, show isTok _ (#[123] : Array UInt8).toList = true from c3]
      rintro e w7 ⟨rfl, hk7⟩
      have z7 := hk7.size
      try simp at z7
      replace D : Rdr toks en br lim (p + 1) dep w7 := rda
      replace Dm := D.limle
      replace R : Loc w7 w.heap.size (.pointer none) 30 := loca
      replace Rc := R.cell
      replace Rl := R.lt
      have Rl_w7 := Rl
      replace Rf := R.frozen
      replace L : Loc w7 nv (ptrV bd) 30 := loca
      replace Lc := L.cell
      replace Ll := L.lt
      have Ll_w7 := Ll
      replace Lf := L.frozen
      replace N : NodeB w7 w.heap.size [w.heap.size, nv] bd 4 (B (tokAt toks en pos).text) ⟨#[]⟩ 0 (tokAt toks en pos).at_ sv bs acc := nba
      replace Nl := N.lt
      replace K : Kp w.heap.size [br] w w7 := kpa
      replace Kz := K.size
      have Kz_w7 := Kz
      clear hk7
      have M0 := R
      have M1 := L
      have MN := N
      have hr := D
      clear R L D N
      cases z with
      | stop a er =>
        cases hq
        have ml := MN.lt
        have mle := MN.lo_le
        have ml1 := M1.lt
        have ml0 := M0.lt
        have mz := K.size
        have m2 := M1.cell
        obtain ⟨m3, m4, -⟩ := MN.cell
        go_wp2_with fail
        refine wp_region_U (S := (fun W => W.cell? ⟨nv, 0, none⟩ = some (ptrV bd) ∧ W.cell? ⟨bd, 5, none⟩ = some sv)) (F := [11,12,13]) (by kernel_rfl) ⟨m2, m3⟩ (fun hHeld => ?_)
        refine tkU 0 (v := ?_) rfl (by kernel_rfl) (fun _ _ _ h => h) (Or.inl ⟨by rfl, ?_⟩) (by assumption) ?_
        rotate_left
        · intro w hSw; (try dsimp only at hSw); go_simp; try with_reducible rfl
        try simp only [Act.put, pz]
        refine tkU 1 (v := ?_) rfl (by kernel_rfl) (fun _ _ _ h => h) (Or.inl ⟨by rfl, ?_⟩) (by assumption) ?_
        rotate_left
        · intro w hSw; (try dsimp only at hSw); go_simp; try with_reducible rfl
        try simp only [Act.put, pz]
        refine tkU 2 (v := ?_) rfl (by kernel_rfl) (fun _ _ _ h => h) (Or.inl ⟨by rfl, ?_⟩) (by assumption) ?_
        rotate_left
        · intro w hSw; (try dsimp only at hSw); go_simp; try with_reducible rfl
        try simp only [Act.put, pz]
        refine tkU 3 (v := ?_) rfl (by kernel_rfl) (fun _ _ _ h => h) (Or.inl ⟨by rfl, ?_⟩) (by assumption) ?_
        rotate_left
        · intro w hSw; (try dsimp only at hSw); go_simp; try with_reducible rfl
        try simp only [Act.put, pz]
        refine tkU 4 (v := ?_) rfl (by kernel_rfl) (fun _ _ _ h => h) (Or.inl ⟨by rfl, ?_⟩) (by assumption) ?_
        rotate_left
        · intro w hSw; (try dsimp only at hSw); go_simp; try with_reducible rfl
        try simp only [Act.put, pz]
        refine tkU 5 (v := ?_) rfl (by kernel_rfl) (fun _ _ _ h => h) (Or.inl ⟨by rfl, ?_⟩) (by assumption) ?_
        rotate_left
        · intro w hSw; (try dsimp only at hSw); go_simp; try with_reducible rfl
        try simp only [Act.put, pz]
        refine tkU 6 (v := ?_) rfl (by kernel_rfl) (fun _ _ _ h => h) (Or.inl ⟨by rfl, ?_⟩) (by assumption) ?_
        rotate_left
        · intro w hSw; (try dsimp only at hSw); go_simp; try with_reducible rfl
        try simp only [Act.put, pz]
        refine tkU 7 (v := ?_) rfl (by kernel_rfl) (fun _ _ _ h => h) (Or.inl ⟨by rfl, ?_⟩) (by assumption) ?_
        rotate_left
        · intro w hSw; (try dsimp only at hSw); go_simp; try with_reducible rfl
        try simp only [Act.put, pz]
        refine wpAnyU_one (i := 8) (by kernel_rfl) rfl rfl (fun K1 hK => ?_)
        go_simp
        refine (HZ _ (rda)).mono ?_
        clear hK
        rintro e w9 ⟨rfl, hk9⟩
        have z9 := hk9.size
        try simp at z9
        go_wp2
        exact ⟨rfl, rfl, kpa⟩
      | ok c q2 =>
        cases hq
        have ml := MN.lt
        have mle := MN.lo_le
        have ml1 := M1.lt
        have ml0 := M0.lt
        have mz := K.size
        have m2 := M1.cell
        obtain ⟨m3, m4, -⟩ := MN.cell
        go_wp2_with fail
        refine wp_region_U (S := (fun W => W.cell? ⟨nv, 0, none⟩ = some (ptrV bd) ∧ W.cell? ⟨bd, 5, none⟩ = some sv)) (F := [11,12,13]) (by kernel_rfl) ⟨m2, m3⟩ (fun hHeld => ?_)
        refine tkU 0 (v := ?_) rfl (by kernel_rfl) (fun _ _ _ h => h) (Or.inl ⟨by rfl, ?_⟩) (by assumption) ?_
        rotate_left
        · intro w hSw; (try dsimp only at hSw); go_simp; try with_reducible rfl
        try simp only [Act.put, pz]
        refine tkU 1 (v := ?_) rfl (by kernel_rfl) (fun _ _ _ h => h) (Or.inl ⟨by rfl, ?_⟩) (by assumption) ?_
        rotate_left
        · intro w hSw; (try dsimp only at hSw); go_simp; try with_reducible rfl
        try simp only [Act.put, pz]
        refine tkU 2 (v := ?_) rfl (by kernel_rfl) (fun _ _ _ h => h) (Or.inl ⟨by rfl, ?_⟩) (by assumption) ?_
        rotate_left
        · intro w hSw; (try dsimp only at hSw); go_simp; try with_reducible rfl
        try simp only [Act.put, pz]
        refine tkU 3 (v := ?_) rfl (by kernel_rfl) (fun _ _ _ h => h) (Or.inl ⟨by rfl, ?_⟩) (by assumption) ?_
        rotate_left
        · intro w hSw; (try dsimp only at hSw); go_simp; try with_reducible rfl
        try simp only [Act.put, pz]
        refine tkU 4 (v := ?_) rfl (by kernel_rfl) (fun _ _ _ h => h) (Or.inl ⟨by rfl, ?_⟩) (by assumption) ?_
        rotate_left
        · intro w hSw; (try dsimp only at hSw); go_simp; try with_reducible rfl
        try simp only [Act.put, pz]
        refine tkU 5 (v := ?_) rfl (by kernel_rfl) (fun _ _ _ h => h) (Or.inl ⟨by rfl, ?_⟩) (by assumption) ?_
        rotate_left
        · intro w hSw; (try dsimp only at hSw); go_simp; try with_reducible rfl
        try simp only [Act.put, pz]
        refine tkU 6 (v := ?_) rfl (by kernel_rfl) (fun _ _ _ h => h) (Or.inl ⟨by rfl, ?_⟩) (by assumption) ?_
        rotate_left
        · intro w hSw; (try dsimp only at hSw); go_simp; try with_reducible rfl
        try simp only [Act.put, pz]
        refine tkU 7 (v := ?_) rfl (by kernel_rfl) (fun _ _ _ h => h) (Or.inl ⟨by rfl, ?_⟩) (by assumption) ?_
        rotate_left
        · intro w hSw; (try dsimp only at hSw); go_simp; try with_reducible rfl
        try simp only [Act.put, pz]
        refine wpAnyU_one (i := 8) (by kernel_rfl) rfl rfl (fun K1 hK => ?_)
        go_simp
        refine (HZ _ (rda)).mono ?_
        rintro e w9 ⟨b9, rfl, hT9, hr9, hk9⟩
        have z9 := hk9.size
        try simp at z9
        have M19 := M1.drew.kp hk9 sza sza
        have M09 := M0.drew.kp hk9 sza sza
        have MN9 := MN.drew.kp hk9 sza (by simp; omega)
        try dsimp only
        refine hK.out _ _ ?_ ?_
        · intro _; exact ⟨M19.cell, MN9.cell.1⟩
        clear hK K1
        try simp only [Act.put, pz]
        refine wpAnyU_one (i := 9) (by kernel_rfl) rfl rfl (fun K1 hK => ?_)
        go_simp
        refine hK.out _ _ ?_ ?_
        · intro _; exact ⟨(M19.alloc _).cell, (MN9.alloc _).cell.1⟩
        clear hK K1
        try simp only [Act.put, pz]
        have NN9 := MN9.alloc (.cells #[ptrV b9] 30)
        have nr9 := NN9.row
        refine wpAnyU_one (i := 10) (by kernel_rfl) rfl rfl (fun K1 hK => ?_)
        refine app_node 51 54 rfl _ sv bs b9 rfl nr9.1 ⟨w9.heap.size, 0, none⟩ rfl (by simp) (by rw [Kids.len _ _ nr9.2.2]; exact hlen) (by simp; omega) ?_
        intro g9 cap9 v9 how9 hgr9 hat9 hlt9
        obtain ⟨d39, d49⟩ := NN9.grown5 hgr9
        have M1G := (M19.alloc (.cells #[ptrV b9] 30)).grown hgr9 (NN9.exne (by simp))
        have M0G := (M09.alloc (.cells #[ptrV b9] 30)).grown hgr9 (NN9.exne (by simp))
        have m1g := M1G.cell
        have sG := hgr9.size
        simp at sG
        refine hK.out _ _ ?_ ?_
        · intro _; exact ⟨m1g, d39⟩
        clear hK K1
        try simp only [Act.put, pz]
        refine wpAnyU_one (i := 11) (by kernel_rfl) rfl rfl (fun K1 hK => ?_)
        go_simp
        refine hK.out _ _ ?_ ?_
        · intro hF; exact absurd hF (by decide)
        clear hK K1
        try simp only [Act.put, pz]
        refine wpAnyU_one (i := 12) (by kernel_rfl) rfl rfl (fun K1 hK => ?_)
        go_simp
        refine hK.out _ _ ?_ ?_
        · intro hF; exact absurd hF (by decide)
        clear hK K1
        try simp only [Act.put, pz]
        refine wpAnyU_one (i := 13) (by kernel_rfl) rfl rfl (fun K1 hK => ?_)
        go_simp
        refine hK.out _ _ ?_ ?_
        · intro hF; exact absurd hF (by decide)
        clear hK K1
        try simp only [Act.put, pz]
        refine wpAnyU_done (by kernel_rfl) ?_ _
        have hTA := hT9.frame (Nat.le_refl _) (Nat.le_refl _) (fun k _ hk => hA_old (o := .cells #[ptrV b9] 30) hk)
        have NP9 := NN9.push hTA sza sza (by intro y hy; simp at hy; have q1 := fun y h => (MN.row.2.1 y h).1; simp only [World.size_drew]; rcases hy with hy | hy | hy | hy; omega; (have := q1 y hy; omega); omega; omega) (by simp; omega) how9 hgr9 hat9 hlt9
        have K9 : Kp w.heap.size [br] w v9 := Kp.grown (kpa) (by simp; omega) hgr9 (fun k e => .inl (Nat.le_trans (by omega) (NN9.own_ge e)))
        have hrG := (hr9.alloc (.cells #[ptrV b9] 30)).grown hgr9 (fun k e => Nat.le_trans hlim (Nat.le_trans (by omega) (NN9.own_ge e)))
        have lt1G := M1G.lt
        have lt0G := M0G.lt
        replace hr := hrG.setCell (p := ⟨bd, 5, none⟩) (by simp; omega) (.slice (some ⟨g9, 0, none⟩) (bs.length + 1) cap9)
        replace K := K9.setCell (p := ⟨bd, 5, none⟩) (by left; simp; omega) (.slice (some ⟨g9, 0, none⟩) (bs.length + 1) cap9)
        replace M1 := M1G.other (c := bd) 5 (.slice (some ⟨g9, 0, none⟩) (bs.length + 1) cap9) (fun e => by have := MN.notin; simp [← e] at this)
        replace M0 := M0G.other (c := bd) 5 (.slice (some ⟨g9, 0, none⟩) (bs.length + 1) cap9) (fun e => by have := MN.notin; simp [← e] at this)
        replace MN := NP9.hide
        have szW : v9.heap.size ≤ (v9.setCell ⟨bd, 5, none⟩ (.slice (some ⟨g9, 0, none⟩) (bs.length + 1) cap9)).heap.size := by simp
        clear M19 M09 MN9 NN9 nr9 how9 hgr9 hat9 hlt9 d39 d49 M1G M0G m1g hTA hT9 NP9 K9 hrG hr9 hk9 m2 m3 m4 hHeld
        generalize v9.setCell ⟨bd, 5, none⟩ (.slice (some ⟨g9, 0, none⟩) (bs.length + 1) cap9) = W9 at *
        obtain ⟨sv, bs, MN⟩ := MN
        have m1c := M1.cell
        have m0c := M0.cell
        have m0f := M0.frozen
        have m0l := M0.lt
        go_wp2
        refine bodyPost_ret (v := .agg #[ptrV bd]) (by simp [results, Tryz.results101, go_sem, *]) rfl ?_
        refine ⟨bd, rfl, ?_, rda, kpa⟩
        have MF := MN.setEx (b := w.heap.size) 0 (ptrV bd) (by left; simp)
        exact MF.isT rfl rfl
    · rw [if_neg c3] at hq
      rw [Bool.not_eq_true] at c3
      have HE := fun w1 (h1 : Rdr toks en br lim (p + 1) dep w1) => typ_c (dep := dep) h1 _ rfl
      cases hT : pType toks en (p + 1) with
      | stop a er =>
        rw [hT] at hq HE
        cases hq
        go_wp2_with fail
        refine ((is_c (pos := p + 1) (dep := dep) (toks := toks) (en := en) (lim := lim) (rda) ⟨#[123]⟩).mono ?_)
        rw [mk_toList, show isTok _ (#[123] : Array UInt8).toList = false from c3]
        rintro e w7 ⟨rfl, hk7⟩
        have z7 := hk7.size
        try simp at z7
        replace D : Rdr toks en br lim (p + 1) dep w7 := rda
        replace Dm := D.limle
        replace R : Loc w7 w.heap.size (.pointer none) 30 := loca
        replace Rc := R.cell
        replace Rl := R.lt
        have Rl_w7 := Rl
        replace Rf := R.frozen
        replace L : Loc w7 nv (ptrV bd) 30 := loca
        replace Lc := L.cell
        replace Ll := L.lt
        have Ll_w7 := Ll
        replace Lf := L.frozen
        replace N : NodeB w7 w.heap.size [w.heap.size, nv] bd 4 (B (tokAt toks en pos).text) ⟨#[]⟩ 0 (tokAt toks en pos).at_ sv bs acc := nba
        replace Nl := N.lt
        replace K : Kp w.heap.size [br] w w7 := kpa
        replace Kz := K.size
        have Kz_w7 := Kz
        clear hk7
        go_wp2_with fail
        refine wp_region_U (S := (fun W => W.cell? ⟨nv, 0, none⟩ = some (ptrV bd))) (F := [4,5,6]) (by kernel_rfl) (by (first | (simp; done) | (simp [World.cell?_setCell_other, World.cell?_alloc_lt, *]; done))) (fun hHeld => ?_)
        refine tkU 0 (v := ?_) rfl (by kernel_rfl) (fun _ _ _ h => h) (Or.inl ⟨by rfl, ?_⟩) (by assumption) ?_
        rotate_left
        · intro w hSw; (try dsimp only at hSw); go_simp; try with_reducible rfl
        try simp only [Act.put, pz]
        refine tkU 1 (v := ?_) rfl (by kernel_rfl) (fun _ _ _ h => h) (Or.inl ⟨by rfl, ?_⟩) (by assumption) ?_
        rotate_left
        · intro w hSw; (try dsimp only at hSw); go_simp; try with_reducible rfl
        try simp only [Act.put, pz]
        refine tkU 2 (v := ?_) rfl (by kernel_rfl) (fun _ _ _ h => h) (Or.inl ⟨by rfl, ?_⟩) (by assumption) ?_
        rotate_left
        · intro w hSw; (try dsimp only at hSw); go_simp; try with_reducible rfl
        try simp only [Act.put, pz]
        refine wpAnyU_one (i := 3) (by kernel_rfl) rfl rfl (fun K1 hK => ?_)
        go_simp
        refine (HE _ (rda)).mono ?_
        clear hK
        rintro e w9 ⟨rfl, hk9⟩
        have z9 := hk9.size
        try simp at z9
        go_wp2
        exact ⟨rfl, rfl, kpa⟩
      | ok ty q =>
        rw [hT] at hq HE
        dsimp only at hq
        cases hZ : pBlock k toks en 0 q with
        | none => rw [hZ] at hq; cases hq
        | some z =>
        rw [hZ] at hq
        have HZ := fun w1 (h1 : Rdr toks en br lim q dep w1) => hB toks en br lim q dep w1 z h1 hd (HDP.out ▸ hZ)
        clear hZ hB hT
        go_wp2_with fail
        refine ((is_c (pos := p + 1) (dep := dep) (toks := toks) (en := en) (lim := lim) (rda) ⟨#[123]⟩).mono ?_)
        rw [mk_toList, show isTok _ (#[123] : Array UInt8).toList = false from c3]
        rintro e w7 ⟨rfl, hk7⟩
        have z7 := hk7.size
        try simp at z7
        replace D : Rdr toks en br lim (p + 1) dep w7 := rda
        replace Dm := D.limle
        replace R : Loc w7 w.heap.size (.pointer none) 30 := loca
        replace Rc := R.cell
        replace Rl := R.lt
        have Rl_w7 := Rl
        replace Rf := R.frozen
        replace L : Loc w7 nv (ptrV bd) 30 := loca
        replace Lc := L.cell
        replace Ll := L.lt
        have Ll_w7 := Ll
        replace Lf := L.frozen
        replace N : NodeB w7 w.heap.size [w.heap.size, nv] bd 4 (B (tokAt toks en pos).text) ⟨#[]⟩ 0 (tokAt toks en pos).at_ sv bs acc := nba
        replace Nl := N.lt
        replace K : Kp w.heap.size [br] w w7 := kpa
        replace Kz := K.size
        have Kz_w7 := Kz
        clear hk7
        go_wp2_with fail
        refine wp_region_U (S := (fun W => W.cell? ⟨nv, 0, none⟩ = some (ptrV bd))) (F := [4,5,6]) (by kernel_rfl) (by (first | (simp; done) | (simp [World.cell?_setCell_other, World.cell?_alloc_lt, *]; done))) (fun hHeld => ?_)
        refine tkU 0 (v := ?_) rfl (by kernel_rfl) (fun _ _ _ h => h) (Or.inl ⟨by rfl, ?_⟩) (by assumption) ?_
        rotate_left
        · intro w hSw; (try dsimp only at hSw); go_simp; try with_reducible rfl
        try simp only [Act.put, pz]
        refine tkU 1 (v := ?_) rfl (by kernel_rfl) (fun _ _ _ h => h) (Or.inl ⟨by rfl, ?_⟩) (by assumption) ?_
        rotate_left
        · intro w hSw; (try dsimp only at hSw); go_simp; try with_reducible rfl
        try simp only [Act.put, pz]
        refine tkU 2 (v := ?_) rfl (by kernel_rfl) (fun _ _ _ h => h) (Or.inl ⟨by rfl, ?_⟩) (by assumption) ?_
        rotate_left
        · intro w hSw; (try dsimp only at hSw); go_simp; try with_reducible rfl
        try simp only [Act.put, pz]
        refine wpAnyU_one (i := 3) (by kernel_rfl) rfl rfl (fun K1 hK => ?_)
        go_simp
        refine (HE _ (rda)).mono ?_
        rintro e w9 ⟨rfl, D9, hk9⟩
        have z9 := hk9.size
        try simp at z9
        clear D
        replace R : Loc w9 w.heap.size (.pointer none) 30 := loca
        replace Rc := R.cell
        replace Rl := R.lt
        have Rl_w9 := Rl
        replace Rf := R.frozen
        replace L : Loc w9 nv (ptrV bd) 30 := loca
        replace Lc := L.cell
        replace Ll := L.lt
        have Ll_w9 := Ll
        replace Lf := L.frozen
        replace N : NodeB w9 w.heap.size [w.heap.size, nv] bd 4 (B (tokAt toks en pos).text) ⟨#[]⟩ 0 (tokAt toks en pos).at_ sv bs acc := nba
        replace Nl := N.lt
        replace K : Kp w.heap.size [br] w w9 := kpa
        replace Kz := K.size
        have Kz_w9 := Kz
        clear hk9
        obtain ⟨-, -, n2, n2f, -⟩ := N.cell
        try dsimp only
        try simp only [sz3]
        refine hK.out _ _ ?_ ?_
        · intro _; exact Lc
        clear hK K1
        try simp only [Act.put, pz]
        refine wpAnyU_one (i := 4) (by kernel_rfl) rfl rfl (fun K1 hK => ?_)
        go_simp
        try dsimp only
        try simp only [sz3]
        refine hK.out _ _ ?_ ?_
        · intro hF; exact absurd hF (by decide)
        clear hK K1
        try simp only [Act.put, pz]
        refine wpAnyU_one (i := 5) (by kernel_rfl) rfl rfl (fun K1 hK => ?_)
        go_simp
        try dsimp only
        try simp only [sz3]
        refine hK.out _ _ ?_ ?_
        · intro hF; exact absurd hF (by decide)
        clear hK K1
        try simp only [Act.put, pz]
        refine wpAnyU_one (i := 6) (by kernel_rfl) rfl rfl (fun K1 hK => ?_)
        go_simp
        try dsimp only
        try simp only [sz3]
        refine hK.out _ _ ?_ ?_
        · intro hF; exact absurd hF (by decide)
        clear hK K1
        try simp only [Act.put, pz]
        refine wpAnyU_done (by kernel_rfl) ?_ _
        have nnb : ¬ w.heap.size = bd := fun e => by have := N.notin; simp [e] at this
        have nnb2 : ¬ nv = bd := fun e => by have := N.notin; simp [e] at this
        have MN := N.setAt 2 (.string (B ty)) (typ' := B ty) rfl
        have M0 := R.other (c := bd) 2 (.string (B ty)) nnb
        have M1 := L.other (c := bd) 2 (.string (B ty)) nnb2
        have hr := D9.setCell (p := ⟨bd, 2, none⟩) (by simp; omega) (.string (B ty))
        have K' := K.setCell (p := ⟨bd, 2, none⟩) (by left; simp; omega) (.string (B ty))
        clear R L D9 N K
        have K := K'
        clear K'
        generalize w9.setCell ⟨bd, 2, none⟩ (.string (B ty)) = w10 at *
        cases z with
        | stop a er =>
          cases hq
          have ml := MN.lt
          have mle := MN.lo_le
          have ml1 := M1.lt
          have ml0 := M0.lt
          have mz := K.size
          have m2 := M1.cell
          obtain ⟨m3, m4, -⟩ := MN.cell
          go_wp2_with fail
          refine wp_region_U (S := (fun W => W.cell? ⟨nv, 0, none⟩ = some (ptrV bd) ∧ W.cell? ⟨bd, 5, none⟩ = some sv)) (F := [11,12,13]) (by kernel_rfl) ⟨m2, m3⟩ (fun hHeld => ?_)
          refine tkU 0 (v := ?_) rfl (by kernel_rfl) (fun _ _ _ h => h) (Or.inl ⟨by rfl, ?_⟩) (by assumption) ?_
          rotate_left
          · intro w hSw; (try dsimp only at hSw); go_simp; try with_reducible rfl
          try simp only [Act.put, pz]
          refine tkU 1 (v := ?_) rfl (by kernel_rfl) (fun _ _ _ h => h) (Or.inl ⟨by rfl, ?_⟩) (by assumption) ?_
          rotate_left
          · intro w hSw; (try dsimp only at hSw); go_simp; try with_reducible rfl
          try simp only [Act.put, pz]
          refine tkU 2 (v := ?_) rfl (by kernel_rfl) (fun _ _ _ h => h) (Or.inl ⟨by rfl, ?_⟩) (by assumption) ?_
          rotate_left
          · intro w hSw; (try dsimp only at hSw); go_simp; try with_reducible rfl
          try simp only [Act.put, pz]
          refine tkU 3 (v := ?_) rfl (by kernel_rfl) (fun _ _ _ h => h) (Or.inl ⟨by rfl, ?_⟩) (by assumption) ?_
          rotate_left
          · intro w hSw; (try dsimp only at hSw); go_simp; try with_reducible rfl
          try simp only [Act.put, pz]
          refine tkU 4 (v := ?_) rfl (by kernel_rfl) (fun _ _ _ h => h) (Or.inl ⟨by rfl, ?_⟩) (by assumption) ?_
          rotate_left
          · intro w hSw; (try dsimp only at hSw); go_simp; try with_reducible rfl
          try simp only [Act.put, pz]
          refine tkU 5 (v := ?_) rfl (by kernel_rfl) (fun _ _ _ h => h) (Or.inl ⟨by rfl, ?_⟩) (by assumption) ?_
          rotate_left
          · intro w hSw; (try dsimp only at hSw); go_simp; try with_reducible rfl
          try simp only [Act.put, pz]
          refine tkU 6 (v := ?_) rfl (by kernel_rfl) (fun _ _ _ h => h) (Or.inl ⟨by rfl, ?_⟩) (by assumption) ?_
          rotate_left
          · intro w hSw; (try dsimp only at hSw); go_simp; try with_reducible rfl
          try simp only [Act.put, pz]
          refine tkU 7 (v := ?_) rfl (by kernel_rfl) (fun _ _ _ h => h) (Or.inl ⟨by rfl, ?_⟩) (by assumption) ?_
          rotate_left
          · intro w hSw; (try dsimp only at hSw); go_simp; try with_reducible rfl
          try simp only [Act.put, pz]
          refine wpAnyU_one (i := 8) (by kernel_rfl) rfl rfl (fun K1 hK => ?_)
          go_simp
          refine (HZ _ (rda)).mono ?_
          clear hK
          rintro e w11 ⟨rfl, hk11⟩
          have z11 := hk11.size
          try simp at z11
          go_wp2
          exact ⟨rfl, rfl, kpa⟩
        | ok c q2 =>
          cases hq
          have ml := MN.lt
          have mle := MN.lo_le
          have ml1 := M1.lt
          have ml0 := M0.lt
          have mz := K.size
          have m2 := M1.cell
          obtain ⟨m3, m4, -⟩ := MN.cell
          go_wp2_with fail
          refine wp_region_U (S := (fun W => W.cell? ⟨nv, 0, none⟩ = some (ptrV bd) ∧ W.cell? ⟨bd, 5, none⟩ = some sv)) (F := [11,12,13]) (by kernel_rfl) ⟨m2, m3⟩ (fun hHeld => ?_)
          refine tkU 0 (v := ?_) rfl (by kernel_rfl) (fun _ _ _ h => h) (Or.inl ⟨by rfl, ?_⟩) (by assumption) ?_
          rotate_left
          · intro w hSw; (try dsimp only at hSw); go_simp; try with_reducible rfl
          try simp only [Act.put, pz]
          refine tkU 1 (v := ?_) rfl (by kernel_rfl) (fun _ _ _ h => h) (Or.inl ⟨by rfl, ?_⟩) (by assumption) ?_
          rotate_left
          · intro w hSw; (try dsimp only at hSw); go_simp; try with_reducible rfl
          try simp only [Act.put, pz]
          refine tkU 2 (v := ?_) rfl (by kernel_rfl) (fun _ _ _ h => h) (Or.inl ⟨by rfl, ?_⟩) (by assumption) ?_
          rotate_left
          · intro w hSw; (try dsimp only at hSw); go_simp; try with_reducible rfl
          try simp only [Act.put, pz]
          refine tkU 3 (v := ?_) rfl (by kernel_rfl) (fun _ _ _ h => h) (Or.inl ⟨by rfl, ?_⟩) (by assumption) ?_
          rotate_left
          · intro w hSw; (try dsimp only at hSw); go_simp; try with_reducible rfl
          try simp only [Act.put, pz]
          refine tkU 4 (v := ?_) rfl (by kernel_rfl) (fun _ _ _ h => h) (Or.inl ⟨by rfl, ?_⟩) (by assumption) ?_
          rotate_left
          · intro w hSw; (try dsimp only at hSw); go_simp; try with_reducible rfl
          try simp only [Act.put, pz]
          refine tkU 5 (v := ?_) rfl (by kernel_rfl) (fun _ _ _ h => h) (Or.inl ⟨by rfl, ?_⟩) (by assumption) ?_
          rotate_left
          · intro w hSw; (try dsimp only at hSw); go_simp; try with_reducible rfl
          try simp only [Act.put, pz]
          refine tkU 6 (v := ?_) rfl (by kernel_rfl) (fun _ _ _ h => h) (Or.inl ⟨by rfl, ?_⟩) (by assumption) ?_
          rotate_left
          · intro w hSw; (try dsimp only at hSw); go_simp; try with_reducible rfl
          try simp only [Act.put, pz]
          refine tkU 7 (v := ?_) rfl (by kernel_rfl) (fun _ _ _ h => h) (Or.inl ⟨by rfl, ?_⟩) (by assumption) ?_
          rotate_left
          · intro w hSw; (try dsimp only at hSw); go_simp; try with_reducible rfl
          try simp only [Act.put, pz]
          refine wpAnyU_one (i := 8) (by kernel_rfl) rfl rfl (fun K1 hK => ?_)
          go_simp
          refine (HZ _ (rda)).mono ?_
          rintro e w11 ⟨b11, rfl, hT11, hr11, hk11⟩
          have z11 := hk11.size
          try simp at z11
          have M111 := M1.drew.kp hk11 sza sza
          have M011 := M0.drew.kp hk11 sza sza
          have MN11 := MN.drew.kp hk11 sza (by simp; omega)
          try dsimp only
          refine hK.out _ _ ?_ ?_
          · intro _; exact ⟨M111.cell, MN11.cell.1⟩
          clear hK K1
          try simp only [Act.put, pz]
          refine wpAnyU_one (i := 9) (by kernel_rfl) rfl rfl (fun K1 hK => ?_)
          go_simp
          refine hK.out _ _ ?_ ?_
          · intro _; exact ⟨(M111.alloc _).cell, (MN11.alloc _).cell.1⟩
          clear hK K1
          try simp only [Act.put, pz]
          have NN11 := MN11.alloc (.cells #[ptrV b11] 30)
          have nr11 := NN11.row
          refine wpAnyU_one (i := 10) (by kernel_rfl) rfl rfl (fun K1 hK => ?_)
          refine app_node 51 54 rfl _ sv bs b11 rfl nr11.1 ⟨w11.heap.size, 0, none⟩ rfl (by simp) (by rw [Kids.len _ _ nr11.2.2]; exact hlen) (by simp; omega) ?_
          intro g11 cap11 v11 how11 hgr11 hat11 hlt11
          obtain ⟨d311, d411⟩ := NN11.grown5 hgr11
          have M1G := (M111.alloc (.cells #[ptrV b11] 30)).grown hgr11 (NN11.exne (by simp))
          have M0G := (M011.alloc (.cells #[ptrV b11] 30)).grown hgr11 (NN11.exne (by simp))
          have m1g := M1G.cell
          have sG := hgr11.size
          simp at sG
          refine hK.out _ _ ?_ ?_
          · intro _; exact ⟨m1g, d311⟩
          clear hK K1
          try simp only [Act.put, pz]
          refine wpAnyU_one (i := 11) (by kernel_rfl) rfl rfl (fun K1 hK => ?_)
          go_simp
          refine hK.out _ _ ?_ ?_
          · intro hF; exact absurd hF (by decide)
          clear hK K1
          try simp only [Act.put, pz]
          refine wpAnyU_one (i := 12) (by kernel_rfl) rfl rfl (fun K1 hK => ?_)
          go_simp
          refine hK.out _ _ ?_ ?_
          · intro hF; exact absurd hF (by decide)
          clear hK K1
          try simp only [Act.put, pz]
          refine wpAnyU_one (i := 13) (by kernel_rfl) rfl rfl (fun K1 hK => ?_)
          go_simp
          refine hK.out _ _ ?_ ?_
          · intro hF; exact absurd hF (by decide)
          clear hK K1
          try simp only [Act.put, pz]
          refine wpAnyU_done (by kernel_rfl) ?_ _
          have hTA := hT11.frame (Nat.le_refl _) (Nat.le_refl _) (fun k _ hk => hA_old (o := .cells #[ptrV b11] 30) hk)
          have NP11 := NN11.push hTA sza sza (by intro y hy; simp at hy; have q1 := fun y h => (MN.row.2.1 y h).1; simp only [World.size_drew]; rcases hy with hy | hy | hy | hy; omega; (have := q1 y hy; omega); omega; omega) (by simp; omega) how11 hgr11 hat11 hlt11
          have K11 : Kp w.heap.size [br] w v11 := Kp.grown (kpa) (by simp; omega) hgr11 (fun k e => .inl (Nat.le_trans (by omega) (NN11.own_ge e)))
          have hrG := (hr11.alloc (.cells #[ptrV b11] 30)).grown hgr11 (fun k e => Nat.le_trans hlim (Nat.le_trans (by omega) (NN11.own_ge e)))
          have lt1G := M1G.lt
          have lt0G := M0G.lt
          replace hr := hrG.setCell (p := ⟨bd, 5, none⟩) (by simp; omega) (.slice (some ⟨g11, 0, none⟩) (bs.length + 1) cap11)
          replace K := K11.setCell (p := ⟨bd, 5, none⟩) (by left; simp; omega) (.slice (some ⟨g11, 0, none⟩) (bs.length + 1) cap11)
          replace M1 := M1G.other (c := bd) 5 (.slice (some ⟨g11, 0, none⟩) (bs.length + 1) cap11) (fun e => by have := MN.notin; simp [← e] at this)
          replace M0 := M0G.other (c := bd) 5 (.slice (some ⟨g11, 0, none⟩) (bs.length + 1) cap11) (fun e => by have := MN.notin; simp [← e] at this)
          replace MN := NP11.hide
          have szW : v11.heap.size ≤ (v11.setCell ⟨bd, 5, none⟩ (.slice (some ⟨g11, 0, none⟩) (bs.length + 1) cap11)).heap.size := by simp
          clear M111 M011 MN11 NN11 nr11 how11 hgr11 hat11 hlt11 d311 d411 M1G M0G m1g hTA hT11 NP11 K11 hrG hr11 hk11 m2 m3 m4 hHeld
          generalize v11.setCell ⟨bd, 5, none⟩ (.slice (some ⟨g11, 0, none⟩) (bs.length + 1) cap11) = W11 at *
          obtain ⟨sv, bs, MN⟩ := MN
          have m1c := M1.cell
          have m0c := M0.cell
          have m0f := M0.frozen
          have m0l := M0.lt
          go_wp2
          refine bodyPost_ret (v := .agg #[ptrV bd]) (by simp [results, Tryz.results101, go_sem, *]) rfl ?_
          refine ⟨bd, rfl, ?_, rda, kpa⟩
          have MF := MN.setEx (b := w.heap.size) 0 (ptrV bd) (by left; simp)
          exact MF.isT rfl rfl

end Go.Proofs.YtbplaekabeggkaaGreatDoor
