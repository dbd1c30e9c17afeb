/- PROVED: the law ParseBlanks of layer 4 answers true for every string, as its given card says (the listed package variables as the program lays them); no other condition. The parser, the lexer and the writer of the awake test are walked whole. Text 6 of 16. -/
import Derived.Test.YtbplaekabeggkaaGreatDoorG05
set_option linter.unusedSimpArgs false
set_option linter.unusedVariables false
namespace Go.Proofs.YtbplaekabeggkaaGreatDoor
open Go.RowKit

set_option maxRecDepth 100000 in
set_option maxHeartbeats 4000000 in
theorem change_c {k : Nat} {toks : List Tok} {en : Int} {br lim pos dep : Nat} {w : World} (hP : CPostfix k) (hE : CExpr k) (hR : Rdr toks en br lim pos dep w) (hd : dep ≤ 40) (r : Res T) (hr : pChange k toks en dep pos = some r) :
    Calls Tryz.prog 205 #[.pointer (some ⟨br, 0, none⟩)] w (PostN toks en br lim dep w r) := by
  have hlim := hR.limle
  have hbr := hR.lt
  unfold pChange at hr
  cases hX : pPostfix k toks en dep pos with
  | none => rw [hX] at hr; cases hr
  | some x =>
  rw [hX] at hr
  have HE := fun w1 (h1 : Rdr toks en br lim pos dep w1) => hP toks en br lim pos dep w1 x h1 hd hX
  have hadv := fun t p (e : x = .ok t p) => (advK k).postfix_ _ _ _ _ t p (e ▸ hX)
  have hpn := fun t p (e : x = .ok t p) => pPostfix_n (p := p) (t := t) (e ▸ hX)
  have hfld := fun t p (e : x = .ok t p) => (invK k).postfix_ _ _ _ _ t p (e ▸ hX)
  clear hX hP
  have hi := is_c (hR.alloc (.cells #[.pointer none] 30)) ⟨#[40]⟩
  rw [mk_toList] at hi
  generalize hf : isTok (tokAt toks en pos) (#[40] : Array UInt8).toList = first at hi
  change isTok (tokAt toks en pos) kLpar = first at hf
  rw [hf] at hr
  clear hf
  cases x with
  | stop a er =>
    cases hr
    have : ¬ w.heap.size = br := sza
    have : ¬ br = w.heap.size := sza
    go_enter Tryz.func205, Tryz.ntmps205
    go_wp2_with fail
    refine (hi).mono ?_
    rintro e w1 ⟨rfl, hk1⟩
    have z1 := hk1.size
    try simp at z1
    have lc1_0 := fun o => hk1.cell (w.heap.size) o sza sza
    have lf1_0 := fun o => hk1.frozen (w.heap.size) o sza sza
    have ll1_0 : w.heap.size < w1.heap.size := sza
    try simp at lc1_0
    try simp at lf1_0
    have lb1_0 := hk1.block (w.heap.size) sza sza
    go_wp2_with fail
    refine (HE _ (rda)).mono ?_
    rintro e w2 ⟨rfl, hk2⟩
    have z2 := hk2.size
    try simp at z2
    go_wp2
    exact ⟨rfl, rfl, kpa⟩
  | ok left p =>
  have hadv := hadv left p rfl
  have hpn := hpn left p rfl
  have hfl := hfld left p rfl
  clear hfld
  dsimp only at hr
  have : ¬ w.heap.size = br := sza
  have : ¬ br = w.heap.size := sza
  go_enter Tryz.func205, Tryz.ntmps205
  go_wp2_with fail
  refine (hi).mono ?_
  rintro e w1 ⟨rfl, hk1⟩
  have z1 := hk1.size
  try simp at z1
  have lc1_0 := fun o => hk1.cell (w.heap.size) o sza sza
  have lf1_0 := fun o => hk1.frozen (w.heap.size) o sza sza
  have ll1_0 : w.heap.size < w1.heap.size := sza
  try simp at lc1_0
  try simp at lf1_0
  have lb1_0 := hk1.block (w.heap.size) sza sza
  go_wp2_with fail
  refine (HE _ (rda)).mono ?_
  rintro e w2 ⟨b2, rfl, hT2, hr2, hk2⟩
  have z2 := hk2.size
  try simp at z2
  have lc2_0 := fun o => hk2.cell (w.heap.size) o sza sza
  have lf2_0 := fun o => hk2.frozen (w.heap.size) o sza sza
  have ll2_0 : w.heap.size < w2.heap.size := sza
  try simp at lc2_0
  try simp at lf2_0
  have lb2_0 := hk2.block (w.heap.size) sza sza
  clear HE hi
  have TL : TreeAt w2 w1.heap.size w2.heap.size b2 left := ⟨Nat.le_refl _, hT2⟩
  have R2 : Loc w2 w.heap.size (.pointer none) 30 := loca
  have K2 : Kp w.heap.size [br] w w2 := kpa
  have hz : w.heap.size < w1.heap.size := by omega
  have hlim1 : lim ≤ w1.heap.size := by omega
  clear hk1 hk2 lc1_0 lf1_0 lb1_0 lc2_0 lf2_0 lb2_0 hT2 hR
  go_wp2_with fail
  obtain ⟨q, rfl⟩ : ∃ q, p = q + 1 := ⟨p - 1, by omega⟩
  have hr2' := hr2.alloc (.cells #[ptrV b2] 30)
  have hql : q < toks.length := by have := hr2.posle; omega
  obtain ⟨bt, cap, s1, s2, s3⟩ := hr2'.tok hql
  obtain ⟨cap', sp', d0, d1, d2, d3, g1, g3⟩ := hr2'.cells
  push_cast at d1
  have hpw : IntKind.i64.wrap ((q : Int) + 1 - 1) = (q : Int) := by rw [Int.add_sub_cancel]; exact IntWalk.i64_in _ (by have := hr2.small; omega)
  have hqli : (q : Int) < (toks.length : Int) := by omega
  have hq0 : (0 : Int) ≤ (q : Int) := by omega
  have hqw : IntKind.i64.wrap (q : Int) = (q : Int) := IntWalk.i64_in _ (by have := hr2.small; omega)
  have hts := hr2.small
  have hbt : bt < w2.heap.size + 1 := by simpa using s2
  have hbr2 : br < w2.heap.size + 1 := by have := hr2.limle; omega
  rw [show q + 1 - 1 = q from rfl] at hr
  by_cases hx : (first && (tokAt toks en q).text == kRpar) = true
  · rw [if_pos hx] at hr
    cases hr
    rw [Bool.and_eq_true] at hx
    obtain ⟨hx1, hx2⟩ := hx
    subst hx1
    change ((tokAt toks en q).text == [41]) = true at hx2
    generalize (tokAt toks en q).text = tx at *
    go_quiet (fail)
    have : ¬ w.heap.size = br := sza
    have : ¬ br = w.heap.size := sza
    have : ¬ w2.heap.size = w.heap.size := sza
    have : ¬ w.heap.size = w2.heap.size := sza
    have : ¬ w2.heap.size = br := sza
    have : ¬ br = w2.heap.size := sza
    go_wp2_with fail
    refine (fail_c (pos := q + 1) (dep := dep) (toks := toks) (en := en) (lim := lim) (rda)).mono ?_
    rintro e w5 ⟨rfl, hk5⟩
    have z5 := hk5.size
    try simp at z5
    go_wp2
    exact ⟨rfl, rfl, kpa⟩
  rw [if_neg hx] at hr
  refine wp_cutR (fun a W => ∃ (v1 v2 v3 v4 u11 u12 u13 u14 u15 u16 u17 u18 u19 u20 u21 u22 u23 : Value) (m : Nat), a = { tmps := #[.pointer (some ⟨br, 0, none⟩), undef, .pointer (some ⟨w.heap.size, 0, none⟩), v1, .pointer (some ⟨w2.heap.size, 0, none⟩), .pointer (some ⟨br, 0, none⟩), v2, .pointer (some ⟨br, 0, none⟩), .agg #[ptrV b2], v3, v4, u11, u12, u13, u14, u15, u16, u17, u18, u19, u20, u21, u22, u23, .bool false, undef, undef, undef, undef, undef, undef, undef, undef, undef, undef, undef, undef, undef, undef, undef, undef, undef, undef, undef, undef, undef, undef, undef, undef, undef, undef, undef, undef, undef, undef, undef, undef, undef, undef, undef, undef, undef, undef, undef, undef, undef, undef, undef, undef, undef, undef, undef, undef, undef, undef, undef, undef, undef], defers := [] } ∧ W = (w2.alloc (.cells #[ptrV b2] 30)).drewN m) ?_ ?_
  rotate_left
  · cases first with
    | false =>
      go_quiet (fail)
      simp only [CutQ]
      exact ⟨_, _, _, _, _, _, _, _, _, _, _, _, _, _, _, _, _, _, rfl, rfl⟩
    | true =>
      have hx2 : ((tokAt toks en q).text == [41]) = false := by simpa [kRpar] using hx
      generalize (tokAt toks en q).text = tx at *
      go_quiet (fail)
      simp only [CutQ]
      exact ⟨_, _, _, _, _, _, _, _, _, _, _, _, _, _, _, _, _, _, rfl, rfl⟩
  rintro a W ⟨v1, v2, v3, v4, u11, u12, u13, u14, u15, u16, u17, u18, u19, u20, u21, u22, u23, m, rfl, rfl⟩
  have hlo : w1.heap.size ≤ w2.heap.size := by omega
  have hlo2 : w.heap.size < w2.heap.size := by omega
  have D := hr2
  have T := TL
  have R := R2
  have K := K2
  clear hr2 TL R2 K2
  have L := Loc.new w2 (ptrV b2) 30
  replace D : Rdr toks en br lim (q + 1) dep ((w2.alloc (.cells #[ptrV b2] 30)).drewN m) := rda
  replace Dm := D.limle
  replace T : TreeAt ((w2.alloc (.cells #[ptrV b2] 30)).drewN m) w1.heap.size w2.heap.size b2 left := tra
  replace Tm := T.le
  replace L : Loc ((w2.alloc (.cells #[ptrV b2] 30)).drewN m) w2.heap.size (ptrV b2) 30 := loca
  replace Lc := L.cell
  replace Ll := L.lt
  have Ll_w2alloccellsptrVb230drewNm := Ll
  replace Lf := L.frozen
  replace R : Loc ((w2.alloc (.cells #[ptrV b2] 30)).drewN m) w.heap.size (.pointer none) 30 := loca
  replace Rc := R.cell
  replace Rl := R.lt
  have Rl_w2alloccellsptrVb230drewNm := Rl
  replace Rf := R.frozen
  replace K : Kp w.heap.size [br] w ((w2.alloc (.cells #[ptrV b2] 30)).drewN m) := kpa
  replace Kz := K.size
  have Kz_w2alloccellsptrVb230drewNm := Kz
  generalize (w2.alloc (.cells #[ptrV b2] 30)).drewN m = w3 at *
  generalize w2.heap.size = nv at *
  generalize w1.heap.size = lo at *
  clear hr2' s1 s2 s3 d0 d1 d2 d3 g1 g3 hpw hqw hbt hbr2 hx
  have HO : ∀ w1, IsN w1 (.agg #[ptrV b2]) left → Calls Tryz.prog 31 #[.agg #[ptrV b2]] w1 fun e w' => e = .returned (.int .i64 left.op) ∧ Kp w1.heap.size [] w1 w' := fun w1 h => op_c h
  by_cases o21 : left.op = 21
  · rw [o21] at HO hr
    have ho := Lib.hid o21
    clear o21
    by_cases ce : isTok (tokAt toks en (q + 1)) kEq = true
    · rw [if_neg (by simp [ce]), if_neg (by decide), if_neg (by decide)] at hr
      cases hr
      go_wp2_with fail
      refine (HO _ (by exact T.isN)).mono ?_
      rintro e w4 ⟨rfl, hk4⟩
      have z4 := hk4.size
      try simp at z4
      replace D : Rdr toks en br lim (q + 1) dep w4 := rda
      replace Dm := D.limle
      replace T : TreeAt w4 lo nv b2 left := tra
      replace Tm := T.le
      replace L : Loc w4 nv (ptrV b2) 30 := loca
      replace Lc := L.cell
      replace Ll := L.lt
      have Ll_w4 := Ll
      replace Lf := L.frozen
      replace R : Loc w4 w.heap.size (.pointer none) 30 := loca
      replace Rc := R.cell
      replace Rl := R.lt
      have Rl_w4 := Rl
      replace Rf := R.frozen
      replace K : Kp w.heap.size [br] w w4 := kpa
      replace Kz := K.size
      have Kz_w4 := Kz
      clear hk4
      go_wp2_with fail
      refine ((is_c (pos := q + 1) (dep := dep) (toks := toks) (en := en) (lim := lim) (rda) ⟨#[61]⟩).mono ?_)
      rw [mk_toList, show isTok _ (#[61] : Array UInt8).toList = true from ce]
      rintro e w5 ⟨rfl, hk5⟩
      have z5 := hk5.size
      try simp at z5
      replace D : Rdr toks en br lim (q + 1) dep w5 := rda
      replace Dm := D.limle
      replace T : TreeAt w5 lo nv b2 left := tra
      replace Tm := T.le
      replace L : Loc w5 nv (ptrV b2) 30 := loca
      replace Lc := L.cell
      replace Ll := L.lt
      have Ll_w5 := Ll
      replace Lf := L.frozen
      replace R : Loc w5 w.heap.size (.pointer none) 30 := loca
      replace Rc := R.cell
      replace Rl := R.lt
      have Rl_w5 := Rl
      replace Rf := R.frozen
      replace K : Kp w.heap.size [br] w w5 := kpa
      replace Kz := K.size
      have Kz_w5 := Kz
      clear hk5
      go_wp2_with fail
      refine (HO _ (by exact T.isN)).mono ?_
      rintro e w6 ⟨rfl, hk6⟩
      have z6 := hk6.size
      try simp at z6
      replace D : Rdr toks en br lim (q + 1) dep w6 := rda
      replace Dm := D.limle
      replace T : TreeAt w6 lo nv b2 left := tra
      replace Tm := T.le
      replace L : Loc w6 nv (ptrV b2) 30 := loca
      replace Lc := L.cell
      replace Ll := L.lt
      have Ll_w6 := Ll
      replace Lf := L.frozen
      replace R : Loc w6 w.heap.size (.pointer none) 30 := loca
      replace Rc := R.cell
      replace Rl := R.lt
      have Rl_w6 := Rl
      replace Rf := R.frozen
      replace K : Kp w.heap.size [br] w w6 := kpa
      replace Kz := K.size
      have Kz_w6 := Kz
      clear hk6
      go_wp2_with fail
      refine (HO _ (by exact T.isN)).mono ?_
      rintro e w7 ⟨rfl, hk7⟩
      have z7 := hk7.size
      try simp at z7
      replace D : Rdr toks en br lim (q + 1) dep w7 := rda
      replace Dm := D.limle
      replace T : TreeAt w7 lo nv b2 left := tra
      replace Tm := T.le
      replace L : Loc w7 nv (ptrV b2) 30 := loca
      replace Lc := L.cell
      replace Ll := L.lt
      have Ll_w7 := Ll
      replace Lf := L.frozen
      replace R : Loc w7 w.heap.size (.pointer none) 30 := loca
      replace Rc := R.cell
      replace Rl := R.lt
      have Rl_w7 := Rl
      replace Rf := R.frozen
      replace K : Kp w.heap.size [br] w w7 := kpa
      replace Kz := K.size
      have Kz_w7 := Kz
      clear hk7
      go_wp2_with fail
      refine (fail_c (pos := q + 1) (dep := dep) (toks := toks) (en := en) (lim := lim) (rda)).mono ?_
      rintro e w8 ⟨rfl, hk8⟩
      have z8 := hk8.size
      try simp at z8
      go_wp2
      exact ⟨rfl, rfl, kpa⟩
    · rw [Bool.not_eq_true] at ce
      rw [if_pos ⟨rfl, ce⟩] at hr
      cases hr
      go_wp2_with fail
      refine (HO _ (by exact T.isN)).mono ?_
      rintro e w4 ⟨rfl, hk4⟩
      have z4 := hk4.size
      try simp at z4
      replace D : Rdr toks en br lim (q + 1) dep w4 := rda
      replace Dm := D.limle
      replace T : TreeAt w4 lo nv b2 left := tra
      replace Tm := T.le
      replace L : Loc w4 nv (ptrV b2) 30 := loca
      replace Lc := L.cell
      replace Ll := L.lt
      have Ll_w4 := Ll
      replace Lf := L.frozen
      replace R : Loc w4 w.heap.size (.pointer none) 30 := loca
      replace Rc := R.cell
      replace Rl := R.lt
      have Rl_w4 := Rl
      replace Rf := R.frozen
      replace K : Kp w.heap.size [br] w w4 := kpa
      replace Kz := K.size
      have Kz_w4 := Kz
      clear hk4
      go_wp2_with fail
      refine ((is_c (pos := q + 1) (dep := dep) (toks := toks) (en := en) (lim := lim) (rda) ⟨#[61]⟩).mono ?_)
      rw [mk_toList, show isTok _ (#[61] : Array UInt8).toList = false from ce]
      rintro e w5 ⟨rfl, hk5⟩
      have z5 := hk5.size
      try simp at z5
      replace D : Rdr toks en br lim (q + 1) dep w5 := rda
      replace Dm := D.limle
      replace T : TreeAt w5 lo nv b2 left := tra
      replace Tm := T.le
      replace L : Loc w5 nv (ptrV b2) 30 := loca
      replace Lc := L.cell
      replace Ll := L.lt
      have Ll_w5 := Ll
      replace Lf := L.frozen
      replace R : Loc w5 w.heap.size (.pointer none) 30 := loca
      replace Rc := R.cell
      replace Rl := R.lt
      have Rl_w5 := Rl
      replace Rf := R.frozen
      replace K : Kp w.heap.size [br] w w5 := kpa
      replace Kz := K.size
      have Kz_w5 := Kz
      clear hk5
      go_wp2_with fail
      refine wp_region_U (S := (fun W => W.cell? ⟨nv, 0, none⟩ = some (ptrV b2))) (F := [5]) (by kernel_rfl) (by (first | (simp; done) | (simp [World.cell?_setCell_other, World.cell?_alloc_lt, *]; done))) (fun hHeld => ?_)
      refine tkU 0 (v := ?_) rfl (by kernel_rfl) (fun _ _ _ h => h) (Or.inl ⟨by rfl, ?_⟩) (by assumption) ?_
      rotate_left
      · intro w hSw; (try dsimp only at hSw); go_simp; try with_reducible rfl
      try simp only [Act.put, pz]
      refine tkU 2 (v := ?_) rfl (by kernel_rfl) (fun _ _ _ h => h) (Or.inl ⟨by rfl, ?_⟩) (by assumption) ?_
      rotate_left
      · intro w hSw; (try dsimp only at hSw); go_simp; try with_reducible rfl
      try simp only [Act.put, pz]
      refine wpAnyU_rs (rs := [1, 3]) (by kernel_rfl) (by simp) (AllU.cons rfl rfl (fun K1 hK => ?_) (AllU.cons rfl rfl (fun K1 hK => ?_) AllU.nil))
      · go_simp
        refine (at_c (t := left) (TreeAt.isN (lo := lo) (hi := nv) (tra))).mono ?_
        rintro e w6 ⟨rfl, hk6⟩
        have z6 := hk6.size
        try simp at z6
        try dsimp only
        try simp only [sz3]
        refine hK.out _ _ ?_ ?_
        · intro _; exact Loc.cell (t := 30) (loca)
        clear hK K1
        try simp only [Act.put, pz]
        refine wpAnyU_rs (rs := [3]) (by kernel_rfl) (by simp) (AllU.cons rfl rfl (fun K1 hK => ?_) AllU.nil)
        go_simp
        try dsimp only
        try simp only [sz3]
        refine hK.out _ _ ?_ ?_
        · intro _; exact Loc.cell (t := 30) (loca)
        clear hK K1
        try simp only [Act.put, pz]
        refine wpAnyU_rs (rs := [4]) (by kernel_rfl) (by simp) (AllU.cons rfl rfl (fun K1 hK => ?_) AllU.nil)
        go_simp
        refine (plain_c _ _ _ _ _ _).mono ?_
        rintro e w7 ⟨rfl, s7, b7, hk7⟩
        have z7 := hk7.size
        try simp at s7
        try simp at z7
        try simp at b7
        have B7 := Blk.mk b7
        have z7' := Nat.le_of_eq s7.symm
        obtain ⟨bn, hbn, B7⟩ : ∃ bn, bn = _ ∧ Blk w7 bn _ 108 := ⟨_, rfl, B7⟩
        have R7 : Loc w7 w.heap.size (.pointer none) 30 := loca
        have R7c := R7.cell
        have R7f := R7.frozen
        have R7l := R7.lt
        clear s7 b7
        try dsimp only
        try simp only [sz3]
        refine hK.out _ _ ?_ ?_
        · intro _; exact Loc.cell (t := 30) (loca)
        clear hK K1
        try simp only [Act.put, pz]
        refine wpAnyU_rs (rs := [5]) (by kernel_rfl) (by simp) (AllU.cons rfl rfl (fun K1 hK => ?_) AllU.nil)
        refine st_node 2 40 rfl _ _ (.pointer none) rfl rfl (loca) ?_
        try dsimp only
        try simp only [sz3]
        refine hK.out _ _ ?_ ?_
        · intro hF; exact absurd hF (by decide)
        clear hK K1
        try simp only [Act.put, pz]
        refine wpAnyU_done (by kernel_rfl) ?_ _
        go_wp2
        refine bodyPost_ret (v := .agg #[ptrV bn]) (by simp [results, Tryz.results205, go_sem, *]) rfl ?_
        refine ⟨bn, rfl, ?_, rda, kpa⟩
        refine IsX.isT _ _ (IsX.built (name := []) (typ := []) (ex := []) (bs := [b2]) (ts := [left]) ?_ ?_ (by simp) ?_ ?_ (by simp) ?_ (by simp) (by rw [hS_ne (by omega)]; exact B7.blk) ⟨IsX.frame ?_ ?_ (by simp) (fun k hk hk' hx => Kp.block (n := nv) (S := [w.heap.size]) ?_ k hk' (by simp; omega)) _ _ (IsT.isX (ex := []) (Nat.le_refl _) (Nat.le_refl _) (by simp) _ _ T.tr), trivial⟩)
        · exact sza
        · exact sza
        · exact sza
        · exact sza
        · exact Blk.blk (t := 30) (bka)
        · exact sza
        · exact sza
        · exact kpa
      · go_simp
        try dsimp only
        try simp only [sz3]
        refine hK.out _ _ ?_ ?_
        · intro _; exact Loc.cell (t := 30) (loca)
        clear hK K1
        try simp only [Act.put, pz]
        refine wpAnyU_rs (rs := [1]) (by kernel_rfl) (by simp) (AllU.cons rfl rfl (fun K1 hK => ?_) AllU.nil)
        go_simp
        refine (at_c (t := left) (TreeAt.isN (lo := lo) (hi := nv) (tra))).mono ?_
        rintro e w6 ⟨rfl, hk6⟩
        have z6 := hk6.size
        try simp at z6
        try dsimp only
        try simp only [sz3]
        refine hK.out _ _ ?_ ?_
        · intro _; exact Loc.cell (t := 30) (loca)
        clear hK K1
        try simp only [Act.put, pz]
        refine wpAnyU_rs (rs := [4]) (by kernel_rfl) (by simp) (AllU.cons rfl rfl (fun K1 hK => ?_) AllU.nil)
        go_simp
        refine (plain_c _ _ _ _ _ _).mono ?_
        rintro e w7 ⟨rfl, s7, b7, hk7⟩
        have z7 := hk7.size
        try simp at s7
        try simp at z7
        try simp at b7
        have B7 := Blk.mk b7
        have z7' := Nat.le_of_eq s7.symm
        obtain ⟨bn, hbn, B7⟩ : ∃ bn, bn = _ ∧ Blk w7 bn _ 108 := ⟨_, rfl, B7⟩
        have R7 : Loc w7 w.heap.size (.pointer none) 30 := loca
        have R7c := R7.cell
        have R7f := R7.frozen
        have R7l := R7.lt
        clear s7 b7
        try dsimp only
        try simp only [sz3]
        refine hK.out _ _ ?_ ?_
        · intro _; exact Loc.cell (t := 30) (loca)
        clear hK K1
        try simp only [Act.put, pz]
        refine wpAnyU_rs (rs := [5]) (by kernel_rfl) (by simp) (AllU.cons rfl rfl (fun K1 hK => ?_) AllU.nil)
        refine st_node 2 40 rfl _ _ (.pointer none) rfl rfl (loca) ?_
        try dsimp only
        try simp only [sz3]
        refine hK.out _ _ ?_ ?_
        · intro hF; exact absurd hF (by decide)
        clear hK K1
        try simp only [Act.put, pz]
        refine wpAnyU_done (by kernel_rfl) ?_ _
        go_wp2
        refine bodyPost_ret (v := .agg #[ptrV bn]) (by simp [results, Tryz.results205, go_sem, *]) rfl ?_
        refine ⟨bn, rfl, ?_, rda, kpa⟩
        refine IsX.isT _ _ (IsX.built (name := []) (typ := []) (ex := []) (bs := [b2]) (ts := [left]) ?_ ?_ (by simp) ?_ ?_ (by simp) ?_ (by simp) (by rw [hS_ne (by omega)]; exact B7.blk) ⟨IsX.frame ?_ ?_ (by simp) (fun k hk hk' hx => Kp.block (n := nv) (S := [w.heap.size]) ?_ k hk' (by simp; omega)) _ _ (IsT.isX (ex := []) (Nat.le_refl _) (Nat.le_refl _) (by simp) _ _ T.tr), trivial⟩)
        · exact sza
        · exact sza
        · exact sza
        · exact sza
        · exact Blk.blk (t := 30) (bka)
        · exact sza
        · exact sza
        · exact kpa
  have o21b : (left.op == 21) = false := by simpa using o21
  rw [if_neg (fun h => o21 h.1)] at hr
  by_cases o18 : left.op = 18
  · rw [if_pos o18] at hr
    rw [o18] at HO
    have ho := Lib.hid o18
    clear o18 o21 o21b
    by_cases ce : isTok (tokAt toks en (q + 1)) kEq = true
    · rw [if_pos ce] at hr
      cases hY : pExpr k toks en dep 1 (q + 1 + 1) with
      | none => rw [hY] at hr; cases hr
      | some y =>
      rw [hY] at hr
      have HX := fun w1 (h1 : Rdr toks en br lim (q + 1 + 1) dep w1) => hE toks en br lim (q + 1 + 1) dep 1 w1 y h1 hd (by omega) hY
      clear hY hE
      go_wp2_with fail
      refine (HO _ (by exact T.isN)).mono ?_
      rintro e w4 ⟨rfl, hk4⟩
      have z4 := hk4.size
      try simp at z4
      replace D : Rdr toks en br lim (q + 1) dep w4 := rda
      replace Dm := D.limle
      replace T : TreeAt w4 lo nv b2 left := tra
      replace Tm := T.le
      replace L : Loc w4 nv (ptrV b2) 30 := loca
      replace Lc := L.cell
      replace Ll := L.lt
      have Ll_w4 := Ll
      replace Lf := L.frozen
      replace R : Loc w4 w.heap.size (.pointer none) 30 := loca
      replace Rc := R.cell
      replace Rl := R.lt
      have Rl_w4 := Rl
      replace Rf := R.frozen
      replace K : Kp w.heap.size [br] w w4 := kpa
      replace Kz := K.size
      have Kz_w4 := Kz
      clear hk4
      go_wp2_with fail
      refine (HO _ (by exact T.isN)).mono ?_
      rintro e w5 ⟨rfl, hk5⟩
      have z5 := hk5.size
      try simp at z5
      replace D : Rdr toks en br lim (q + 1) dep w5 := rda
      replace Dm := D.limle
      replace T : TreeAt w5 lo nv b2 left := tra
      replace Tm := T.le
      replace L : Loc w5 nv (ptrV b2) 30 := loca
      replace Lc := L.cell
      replace Ll := L.lt
      have Ll_w5 := Ll
      replace Lf := L.frozen
      replace R : Loc w5 w.heap.size (.pointer none) 30 := loca
      replace Rc := R.cell
      replace Rl := R.lt
      have Rl_w5 := Rl
      replace Rf := R.frozen
      replace K : Kp w.heap.size [br] w w5 := kpa
      replace Kz := K.size
      have Kz_w5 := Kz
      clear hk5
      go_wp2_with fail
      refine (expect_yes D ⟨#[61]⟩ (by rw [mk_toList]; exact ce)).mono ?_
      rintro e w6 ⟨rfl, D6, hk6⟩
      have z6 := hk6.size
      try simp at z6
      replace T : TreeAt w6 lo nv b2 left := tra
      replace Tm := T.le
      replace L : Loc w6 nv (ptrV b2) 30 := loca
      replace Lc := L.cell
      replace Ll := L.lt
      have Ll_w6 := Ll
      replace Lf := L.frozen
      replace R : Loc w6 w.heap.size (.pointer none) 30 := loca
      replace Rc := R.cell
      replace Rl := R.lt
      have Rl_w6 := Rl
      replace Rf := R.frozen
      replace K : Kp w.heap.size [br] w w6 := kpa
      replace Kz := K.size
      have Kz_w6 := Kz
      clear hk6 D
      have D := D6
      clear D6
      replace Dm := D.limle
      go_wp2_with fail
      refine wp_region_U (S := (fun W => W.cell? ⟨nv, 0, none⟩ = some (ptrV b2))) (F := [10]) (by kernel_rfl) (by (first | (simp; done) | (simp [World.cell?_setCell_other, World.cell?_alloc_lt, *]; done))) (fun hHeld => ?_)
      refine tkU 0 (v := ?_) rfl (by kernel_rfl) (fun _ _ _ h => h) (Or.inl ⟨by rfl, ?_⟩) (by assumption) ?_
      rotate_left
      · intro w hSw; (try dsimp only at hSw); go_simp; try with_reducible rfl
      try simp only [Act.put, pz]
      refine tkU 2 (v := ?_) rfl (by kernel_rfl) (fun _ _ _ h => h) (Or.inl ⟨by rfl, ?_⟩) (by assumption) ?_
      rotate_left
      · intro w hSw; (try dsimp only at hSw); go_simp; try with_reducible rfl
      try simp only [Act.put, pz]
      refine tkU 4 (v := ?_) rfl (by kernel_rfl) (fun _ _ _ h => h) (Or.inl ⟨by rfl, ?_⟩) (by assumption) ?_
      rotate_left
      · intro w hSw; (try dsimp only at hSw); go_simp; try with_reducible rfl
      try simp only [Act.put, pz]
      refine wpAnyU_one (i := 1) (by kernel_rfl) rfl rfl (fun K1 hK => ?_)
      go_simp
      refine (name_c (t := left) (TreeAt.isN (lo := lo) (hi := nv) (tra))).mono ?_
      rintro e w7 ⟨rfl, hk7⟩
      have z7 := hk7.size
      try simp at z7
      replace D : Rdr toks en br lim (q + 1 + 1) dep w7 := rda
      replace Dm := D.limle
      replace T : TreeAt w7 lo nv b2 left := tra
      replace Tm := T.le
      replace L : Loc w7 nv (ptrV b2) 30 := loca
      replace Lc := L.cell
      replace Ll := L.lt
      have Ll_w7 := Ll
      replace Lf := L.frozen
      replace R : Loc w7 w.heap.size (.pointer none) 30 := loca
      replace Rc := R.cell
      replace Rl := R.lt
      have Rl_w7 := Rl
      replace Rf := R.frozen
      replace K : Kp w.heap.size [br] w w7 := kpa
      replace Kz := K.size
      have Kz_w7 := Kz
      clear hk7
      try dsimp only
      try simp only [sz3]
      refine hK.out _ _ ?_ ?_
      · intro _; exact Lc
      clear hK K1
      try simp only [Act.put, pz]
      refine wpAnyU_one (i := 3) (by kernel_rfl) rfl rfl (fun K1 hK => ?_)
      go_simp
      refine (at_c (t := left) (TreeAt.isN (lo := lo) (hi := nv) (tra))).mono ?_
      rintro e w8 ⟨rfl, hk8⟩
      have z8 := hk8.size
      try simp at z8
      replace D : Rdr toks en br lim (q + 1 + 1) dep w8 := rda
      replace Dm := D.limle
      replace T : TreeAt w8 lo nv b2 left := tra
      replace Tm := T.le
      replace L : Loc w8 nv (ptrV b2) 30 := loca
      replace Lc := L.cell
      replace Ll := L.lt
      have Ll_w8 := Ll
      replace Lf := L.frozen
      replace R : Loc w8 w.heap.size (.pointer none) 30 := loca
      replace Rc := R.cell
      replace Rl := R.lt
      have Rl_w8 := Rl
      replace Rf := R.frozen
      replace K : Kp w.heap.size [br] w w8 := kpa
      replace Kz := K.size
      have Kz_w8 := Kz
      clear hk8
      try dsimp only
      try simp only [sz3]
      refine hK.out _ _ ?_ ?_
      · intro _; exact Lc
      clear hK K1
      try simp only [Act.put, pz]
      refine wpAnyU_one (i := 5) (by kernel_rfl) rfl rfl (fun K1 hK => ?_)
      go_simp
      refine (HX _ D).mono ?_
      cases y with
      | stop a er =>
        cases hr
        clear hK
        rintro e w9 ⟨rfl, hk9⟩
        have z9 := hk9.size
        try simp at z9
        go_wp2
        exact ⟨rfl, rfl, kpa⟩
      | ok t p2 =>
        cases hr
        rintro e w9 ⟨b9, rfl, hT9, D9, hk9⟩
        have z9 := hk9.size
        try simp at z9
        have T9 : TreeAt w9 w8.heap.size w9.heap.size b9 t := ⟨Nat.le_refl _, hT9⟩
        clear D
        replace T : TreeAt w9 lo nv b2 left := tra
        replace Tm := T.le
        replace L : Loc w9 nv (ptrV b2) 30 := loca
        replace Lc := L.cell
        replace Ll := L.lt
        have Ll_w9 := Ll
        replace Lf := L.frozen
        replace R : Loc w9 w.heap.size (.pointer none) 30 := loca
        replace Rc := R.cell
        replace Rl := R.lt
        have Rl_w9 := Rl
        replace Rf := R.frozen
        replace K : Kp w.heap.size [br] w w9 := kpa
        replace Kz := K.size
        have Kz_w9 := Kz
        clear hk9
        try dsimp only
        try simp only [sz3]
        refine hK.out _ _ ?_ ?_
        · intro _; exact Lc
        clear hK K1
        try simp only [Act.put, pz]
        refine wpAnyU_one (i := 6) (by kernel_rfl) rfl rfl (fun K1 hK => ?_)
        go_simp
        try dsimp only
        try simp only [sz3]
        refine hK.out _ _ ?_ ?_
        · intro _; exact Loc.cell (t := 30) (loca)
        clear hK K1
        try simp only [Act.put, pz]
        refine wpAnyU_one (i := 7) (by kernel_rfl) rfl rfl (fun K1 hK => ?_)
        go_simp
        try dsimp only
        try simp only [sz3]
        refine hK.out _ _ ?_ ?_
        · intro _; exact Loc.cell (t := 30) (loca)
        clear hK K1
        try simp only [Act.put, pz]
        refine wpAnyU_one (i := 8) (by kernel_rfl) rfl rfl (fun K1 hK => ?_)
        go_simp
        try dsimp only
        try simp only [sz3]
        refine hK.out _ _ ?_ ?_
        · intro _; exact Loc.cell (t := 30) (loca)
        clear hK K1
        try simp only [Act.put, pz]
        refine wpAnyU_one (i := 9) (by kernel_rfl) rfl rfl (fun K1 hK => ?_)
        go_simp
        try dsimp only
        try simp only [sz3]
        refine hK.out _ _ ?_ ?_
        · intro _; exact Loc.cell (t := 30) (loca)
        clear hK K1
        try simp only [Act.put, pz]
        refine wpAnyU_one (i := 10) (by kernel_rfl) rfl rfl (fun K1 hK => ?_)
        refine st_node 2 56 rfl _ _ (.pointer none) rfl rfl (loca) ?_
        try dsimp only
        try simp only [sz3]
        refine hK.out _ _ ?_ ?_
        · intro hF; exact absurd hF (by decide)
        clear hK K1
        try simp only [Act.put, pz]
        refine wpAnyU_done (by kernel_rfl) ?_ _
        go_wp2
        refine bodyPost_ret (v := .agg #[ptrV (w9.heap.size + 1)]) (by simp [results, Tryz.results205, go_sem, *]) rfl ?_
        refine ⟨_, rfl, ?_, rda, kpa⟩
        refine IsX.isT _ _ (IsX.built (g := w9.heap.size) (name := left.name) (typ := []) (ex := []) (bs := [b9]) (ts := [t]) ?_ ?_ (by simp) ?_ ?_ (by simp) ?_ (by simp) ?_ ⟨IsX.frame ?_ ?_ (by simp) (fun k hk hk' hx => Kp.block (n := w9.heap.size) (S := [w.heap.size]) ?_ k hk' (by simp; omega)) _ _ (IsT.isX (ex := []) (Nat.le_refl _) (Nat.le_refl _) (by simp) _ _ T9.tr), trivial⟩)
        · exact sza
        · exact sza
        · exact sza
        · exact sza
        · exact Blk.blk (t := 30) (bka)
        · exact Blk.blk (t := 108) (bka)
        · exact sza
        · exact sza
        · exact kpa
    · rw [if_neg ce] at hr
      rw [Bool.not_eq_true] at ce
      cases hr
      go_wp2_with fail
      refine (HO _ (by exact T.isN)).mono ?_
      rintro e w4 ⟨rfl, hk4⟩
      have z4 := hk4.size
      try simp at z4
      replace D : Rdr toks en br lim (q + 1) dep w4 := rda
      replace Dm := D.limle
      replace T : TreeAt w4 lo nv b2 left := tra
      replace Tm := T.le
      replace L : Loc w4 nv (ptrV b2) 30 := loca
      replace Lc := L.cell
      replace Ll := L.lt
      have Ll_w4 := Ll
      replace Lf := L.frozen
      replace R : Loc w4 w.heap.size (.pointer none) 30 := loca
      replace Rc := R.cell
      replace Rl := R.lt
      have Rl_w4 := Rl
      replace Rf := R.frozen
      replace K : Kp w.heap.size [br] w w4 := kpa
      replace Kz := K.size
      have Kz_w4 := Kz
      clear hk4
      go_wp2_with fail
      refine (HO _ (by exact T.isN)).mono ?_
      rintro e w5 ⟨rfl, hk5⟩
      have z5 := hk5.size
      try simp at z5
      replace D : Rdr toks en br lim (q + 1) dep w5 := rda
      replace Dm := D.limle
      replace T : TreeAt w5 lo nv b2 left := tra
      replace Tm := T.le
      replace L : Loc w5 nv (ptrV b2) 30 := loca
      replace Lc := L.cell
      replace Ll := L.lt
      have Ll_w5 := Ll
      replace Lf := L.frozen
      replace R : Loc w5 w.heap.size (.pointer none) 30 := loca
      replace Rc := R.cell
      replace Rl := R.lt
      have Rl_w5 := Rl
      replace Rf := R.frozen
      replace K : Kp w.heap.size [br] w w5 := kpa
      replace Kz := K.size
      have Kz_w5 := Kz
      clear hk5
      go_wp2_with fail
      refine (expect_no D ⟨#[61]⟩ (by rw [mk_toList]; exact ce)).mono ?_
      rintro e w6 ⟨rfl, hk6⟩
      have z6 := hk6.size
      try simp at z6
      go_wp2
      exact ⟨rfl, rfl, kpa⟩
  have o18b : (left.op == 18) = false := by simpa using o18
  rw [if_neg o18] at hr
  by_cases o20 : left.op = 20
  · rw [if_pos o20] at hr
    have hko := hfl o20
    obtain ⟨u, us, hu⟩ : ∃ u us, left.kids = u :: us := by
      cases hk : left.kids with
      | nil => exact absurd hk hko
      | cons u us => exact ⟨u, us, rfl⟩
    have hu0 : left.kids[0]? = some u := by rw [hu]; rfl
    rw [hu] at hr
    dsimp only [List.headD_cons] at hr
    rw [o20] at HO
    have ho := Lib.hid o20
    obtain ⟨x, TX, HK⟩ := T.kid hu0
    have HU0 := Lib.hid hu0
    have HU := Lib.hid hu
    clear o20 o18 o21 o21b o18b hu hu0 hko
    by_cases ce : isTok (tokAt toks en (q + 1)) kEq = true
    · rw [if_pos ce] at hr
      cases hY : pExpr k toks en dep 1 (q + 1 + 1) with
      | none => rw [hY] at hr; cases hr
      | some y =>
      rw [hY] at hr
      have HX := fun w1 (h1 : Rdr toks en br lim (q + 1 + 1) dep w1) => hE toks en br lim (q + 1 + 1) dep 1 w1 y h1 hd (by omega) hY
      clear hY hE
      go_wp2_with fail
      refine (HO _ (by exact T.isN)).mono ?_
      rintro e w4 ⟨rfl, hk4⟩
      have z4 := hk4.size
      try simp at z4
      replace D : Rdr toks en br lim (q + 1) dep w4 := rda
      replace Dm := D.limle
      replace T : TreeAt w4 lo nv b2 left := tra
      replace Tm := T.le
      replace L : Loc w4 nv (ptrV b2) 30 := loca
      replace Lc := L.cell
      replace Ll := L.lt
      have Ll_w4 := Ll
      replace Lf := L.frozen
      replace R : Loc w4 w.heap.size (.pointer none) 30 := loca
      replace Rc := R.cell
      replace Rl := R.lt
      have Rl_w4 := Rl
      replace Rf := R.frozen
      replace TX : TreeAt w4 lo nv x u := tra
      replace TXm := TX.le
      replace HK : KidAt w4 lo nv b2 left.kids.length 0 x := kaa
      replace K : Kp w.heap.size [br] w w4 := kpa
      replace Kz := K.size
      have Kz_w4 := Kz
      clear hk4
      go_wp2_with fail
      refine (HO _ (by exact T.isN)).mono ?_
      rintro e w5 ⟨rfl, hk5⟩
      have z5 := hk5.size
      try simp at z5
      replace D : Rdr toks en br lim (q + 1) dep w5 := rda
      replace Dm := D.limle
      replace T : TreeAt w5 lo nv b2 left := tra
      replace Tm := T.le
      replace L : Loc w5 nv (ptrV b2) 30 := loca
      replace Lc := L.cell
      replace Ll := L.lt
      have Ll_w5 := Ll
      replace Lf := L.frozen
      replace R : Loc w5 w.heap.size (.pointer none) 30 := loca
      replace Rc := R.cell
      replace Rl := R.lt
      have Rl_w5 := Rl
      replace Rf := R.frozen
      replace TX : TreeAt w5 lo nv x u := tra
      replace TXm := TX.le
      replace HK : KidAt w5 lo nv b2 left.kids.length 0 x := kaa
      replace K : Kp w.heap.size [br] w w5 := kpa
      replace Kz := K.size
      have Kz_w5 := Kz
      clear hk5
      go_wp2_with fail
      refine (HO _ (by exact T.isN)).mono ?_
      rintro e w16 ⟨rfl, hk16⟩
      have z16 := hk16.size
      try simp at z16
      replace D : Rdr toks en br lim (q + 1) dep w16 := rda
      replace Dm := D.limle
      replace T : TreeAt w16 lo nv b2 left := tra
      replace Tm := T.le
      replace L : Loc w16 nv (ptrV b2) 30 := loca
      replace Lc := L.cell
      replace Ll := L.lt
      have Ll_w16 := Ll
      replace Lf := L.frozen
      replace R : Loc w16 w.heap.size (.pointer none) 30 := loca
      replace Rc := R.cell
      replace Rl := R.lt
      have Rl_w16 := Rl
      replace Rf := R.frozen
      replace TX : TreeAt w16 lo nv x u := tra
      replace TXm := TX.le
      replace HK : KidAt w16 lo nv b2 left.kids.length 0 x := kaa
      replace K : Kp w.heap.size [br] w w16 := kpa
      replace Kz := K.size
      have Kz_w16 := Kz
      clear hk16
      go_wp2_with fail
      refine (expect_yes D ⟨#[61]⟩ (by rw [mk_toList]; exact ce)).mono ?_
      rintro e w6 ⟨rfl, D6, hk6⟩
      have z6 := hk6.size
      try simp at z6
      replace T : TreeAt w6 lo nv b2 left := tra
      replace Tm := T.le
      replace L : Loc w6 nv (ptrV b2) 30 := loca
      replace Lc := L.cell
      replace Ll := L.lt
      have Ll_w6 := Ll
      replace Lf := L.frozen
      replace R : Loc w6 w.heap.size (.pointer none) 30 := loca
      replace Rc := R.cell
      replace Rl := R.lt
      have Rl_w6 := Rl
      replace Rf := R.frozen
      replace TX : TreeAt w6 lo nv x u := tra
      replace TXm := TX.le
      replace HK : KidAt w6 lo nv b2 left.kids.length 0 x := kaa
      replace K : Kp w.heap.size [br] w w6 := kpa
      replace Kz := K.size
      have Kz_w6 := Kz
      clear hk6 D
      have D := D6
      clear D6
      replace Dm := D.limle
      go_wp2_with fail
      refine wp_region_U (S := (fun W => W.cell? ⟨nv, 0, none⟩ = some (ptrV b2))) (F := [12]) (by kernel_rfl) (by (first | (simp; done) | (simp [World.cell?_setCell_other, World.cell?_alloc_lt, *]; done))) (fun hHeld => ?_)
      refine tkU 0 (v := ?_) rfl (by kernel_rfl) (fun _ _ _ h => h) (Or.inl ⟨by rfl, ?_⟩) (by assumption) ?_
      rotate_left
      · intro w hSw; (try dsimp only at hSw); go_simp; try with_reducible rfl
      try simp only [Act.put, pz]
      refine tkU 2 (v := ?_) rfl (by kernel_rfl) (fun _ _ _ h => h) (Or.inl ⟨by rfl, ?_⟩) (by assumption) ?_
      rotate_left
      · intro w hSw; (try dsimp only at hSw); go_simp; try with_reducible rfl
      try simp only [Act.put, pz]
      refine tkU 4 (v := ?_) rfl (by kernel_rfl) (fun _ _ _ h => h) (Or.inl ⟨by rfl, ?_⟩) (by assumption) ?_
      rotate_left
      · intro w hSw; (try dsimp only at hSw); go_simp; try with_reducible rfl
      try simp only [Act.put, pz]
      refine tkU 6 (v := ?_) rfl (by kernel_rfl) (fun _ _ _ h => h) (Or.inl ⟨by rfl, ?_⟩) (by assumption) ?_
      rotate_left
      · intro w hSw; (try dsimp only at hSw); go_simp; try with_reducible rfl
      try simp only [Act.put, pz]
      refine wpAnyU_one (i := 1) (by kernel_rfl) rfl rfl (fun K1 hK => ?_)
      go_simp
      refine (name_c (t := left) (TreeAt.isN (lo := lo) (hi := nv) (tra))).mono ?_
      rintro e w7 ⟨rfl, hk7⟩
      have z7 := hk7.size
      try simp at z7
      replace D : Rdr toks en br lim (q + 1 + 1) dep w7 := rda
      replace Dm := D.limle
      replace T : TreeAt w7 lo nv b2 left := tra
      replace Tm := T.le
      replace L : Loc w7 nv (ptrV b2) 30 := loca
      replace Lc := L.cell
      replace Ll := L.lt
      have Ll_w7 := Ll
      replace Lf := L.frozen
      replace R : Loc w7 w.heap.size (.pointer none) 30 := loca
      replace Rc := R.cell
      replace Rl := R.lt
      have Rl_w7 := Rl
      replace Rf := R.frozen
      replace TX : TreeAt w7 lo nv x u := tra
      replace TXm := TX.le
      replace HK : KidAt w7 lo nv b2 left.kids.length 0 x := kaa
      replace K : Kp w.heap.size [br] w w7 := kpa
      replace Kz := K.size
      have Kz_w7 := Kz
      clear hk7
      try dsimp only
      try simp only [sz3]
      refine hK.out _ _ ?_ ?_
      · intro _; exact Lc
      clear hK K1
      try simp only [Act.put, pz]
      refine wpAnyU_one (i := 3) (by kernel_rfl) rfl rfl (fun K1 hK => ?_)
      go_simp
      refine (at_c (t := left) (TreeAt.isN (lo := lo) (hi := nv) (tra))).mono ?_
      rintro e w8 ⟨rfl, hk8⟩
      have z8 := hk8.size
      try simp at z8
      replace D : Rdr toks en br lim (q + 1 + 1) dep w8 := rda
      replace Dm := D.limle
      replace T : TreeAt w8 lo nv b2 left := tra
      replace Tm := T.le
      replace L : Loc w8 nv (ptrV b2) 30 := loca
      replace Lc := L.cell
      replace Ll := L.lt
      have Ll_w8 := Ll
      replace Lf := L.frozen
      replace R : Loc w8 w.heap.size (.pointer none) 30 := loca
      replace Rc := R.cell
      replace Rl := R.lt
      have Rl_w8 := Rl
      replace Rf := R.frozen
      replace TX : TreeAt w8 lo nv x u := tra
      replace TXm := TX.le
      replace HK : KidAt w8 lo nv b2 left.kids.length 0 x := kaa
      replace K : Kp w.heap.size [br] w w8 := kpa
      replace Kz := K.size
      have Kz_w8 := Kz
      clear hk8
      try dsimp only
      try simp only [sz3]
      refine hK.out _ _ ?_ ?_
      · intro _; exact Lc
      clear hK K1
      try simp only [Act.put, pz]
      refine wpAnyU_one (i := 5) (by kernel_rfl) rfl rfl (fun K1 hK => ?_)
      go_simp
      refine (kid_at (b := b2) (x := x) (i := 0) (t := left) (lo := lo) (hi := nv) (tra) (kaa)).mono ?_
      rintro e w10 ⟨rfl, hk10⟩
      have z10 := hk10.size
      try simp at z10
      replace D : Rdr toks en br lim (q + 1 + 1) dep w10 := rda
      replace Dm := D.limle
      replace T : TreeAt w10 lo nv b2 left := tra
      replace Tm := T.le
      replace L : Loc w10 nv (ptrV b2) 30 := loca
      replace Lc := L.cell
      replace Ll := L.lt
      have Ll_w10 := Ll
      replace Lf := L.frozen
      replace R : Loc w10 w.heap.size (.pointer none) 30 := loca
      replace Rc := R.cell
      replace Rl := R.lt
      have Rl_w10 := Rl
      replace Rf := R.frozen
      replace TX : TreeAt w10 lo nv x u := tra
      replace TXm := TX.le
      replace HK : KidAt w10 lo nv b2 left.kids.length 0 x := kaa
      replace K : Kp w.heap.size [br] w w10 := kpa
      replace Kz := K.size
      have Kz_w10 := Kz
      clear hk10
      try dsimp only
      try simp only [sz3]
      refine hK.out _ _ ?_ ?_
      · intro _; exact Lc
      clear hK K1
      try simp only [Act.put, pz]
      refine wpAnyU_one (i := 7) (by kernel_rfl) rfl rfl (fun K1 hK => ?_)
      go_simp
      refine (HX _ D).mono ?_
      cases y with
      | stop a er =>
        cases hr
        clear hK
        rintro e w9 ⟨rfl, hk9⟩
        have z9 := hk9.size
        try simp at z9
        go_wp2
        exact ⟨rfl, rfl, kpa⟩
      | ok t p2 =>
        cases hr
        rintro e w9 ⟨b9, rfl, hT9, D9, hk9⟩
        have z9 := hk9.size
        try simp at z9
        have T9 : TreeAt w9 w10.heap.size w9.heap.size b9 t := ⟨Nat.le_refl _, hT9⟩
        clear D
        replace T : TreeAt w9 lo nv b2 left := tra
        replace Tm := T.le
        replace L : Loc w9 nv (ptrV b2) 30 := loca
        replace Lc := L.cell
        replace Ll := L.lt
        have Ll_w9 := Ll
        replace Lf := L.frozen
        replace R : Loc w9 w.heap.size (.pointer none) 30 := loca
        replace Rc := R.cell
        replace Rl := R.lt
        have Rl_w9 := Rl
        replace Rf := R.frozen
        replace TX : TreeAt w9 lo nv x u := tra
        replace TXm := TX.le
        replace HK : KidAt w9 lo nv b2 left.kids.length 0 x := kaa
        replace K : Kp w.heap.size [br] w w9 := kpa
        replace Kz := K.size
        have Kz_w9 := Kz
        clear hk9
        try dsimp only
        try simp only [sz3]
        refine hK.out _ _ ?_ ?_
        · intro _; exact Lc
        clear hK K1
        try simp only [Act.put, pz]
        refine wpAnyU_one (i := 8) (by kernel_rfl) rfl rfl (fun K1 hK => ?_)
        go_simp
        try dsimp only
        try simp only [sz3]
        refine hK.out _ _ ?_ ?_
        · intro _; exact Loc.cell (t := 30) (loca)
        clear hK K1
        try simp only [Act.put, pz]
        refine wpAnyU_one (i := 9) (by kernel_rfl) rfl rfl (fun K1 hK => ?_)
        go_simp
        try dsimp only
        try simp only [sz3]
        refine hK.out _ _ ?_ ?_
        · intro _; exact Loc.cell (t := 30) (loca)
        clear hK K1
        try simp only [Act.put, pz]
        refine wpAnyU_one (i := 10) (by kernel_rfl) rfl rfl (fun K1 hK => ?_)
        go_simp
        try dsimp only
        try simp only [sz3]
        refine hK.out _ _ ?_ ?_
        · intro _; exact Loc.cell (t := 30) (loca)
        clear hK K1
        try simp only [Act.put, pz]
        refine wpAnyU_one (i := 11) (by kernel_rfl) rfl rfl (fun K1 hK => ?_)
        go_simp
        try dsimp only
        try simp only [sz3]
        refine hK.out _ _ ?_ ?_
        · intro _; exact Loc.cell (t := 30) (loca)
        clear hK K1
        try simp only [Act.put, pz]
        refine wpAnyU_one (i := 12) (by kernel_rfl) rfl rfl (fun K1 hK => ?_)
        refine st_node 2 74 rfl _ _ (.pointer none) rfl rfl (loca) ?_
        try dsimp only
        try simp only [sz3]
        refine hK.out _ _ ?_ ?_
        · intro hF; exact absurd hF (by decide)
        clear hK K1
        try simp only [Act.put, pz]
        refine wpAnyU_done (by kernel_rfl) ?_ _
        go_wp2
        refine bodyPost_ret (v := .agg #[ptrV (w9.heap.size + 1)]) (by simp [results, Tryz.results205, go_sem, *]) rfl ?_
        refine ⟨_, rfl, ?_, rda, kpa⟩
        refine IsX.isT _ _ (IsX.built (g := w9.heap.size) (name := left.name) (typ := []) (ex := []) (bs := [x, b9]) (ts := [u, t]) ?_ ?_ (by simp) ?_ ?_ (by simp) ?_ (by simp) ?_ ⟨IsX.frame ?_ ?_ (by simp) (fun k hk hk' hx => Kp.block (n := nv) (S := [w.heap.size]) ?_ k hk' (by simp; omega)) _ _ (IsT.isX (ex := []) (Nat.le_refl _) (Nat.le_refl _) (by simp) _ _ TX.tr), IsX.frame ?_ ?_ (by simp) (fun k hk hk' hx => Kp.block (n := w9.heap.size) (S := [w.heap.size]) ?_ k hk' (by simp; omega)) _ _ (IsT.isX (ex := []) (Nat.le_refl _) (Nat.le_refl _) (by simp) _ _ T9.tr), trivial⟩)
        · exact sza
        · exact sza
        · exact sza
        · exact sza
        · exact Blk.blk (t := 30) (bka)
        · exact Blk.blk (t := 108) (bka)
        · exact sza
        · exact sza
        · exact kpa
        · exact sza
        · exact sza
        · exact kpa
    · rw [if_neg ce] at hr
      rw [Bool.not_eq_true] at ce
      cases hr
      go_wp2_with fail
      refine (HO _ (by exact T.isN)).mono ?_
      rintro e w4 ⟨rfl, hk4⟩
      have z4 := hk4.size
      try simp at z4
      replace D : Rdr toks en br lim (q + 1) dep w4 := rda
      replace Dm := D.limle
      replace T : TreeAt w4 lo nv b2 left := tra
      replace Tm := T.le
      replace L : Loc w4 nv (ptrV b2) 30 := loca
      replace Lc := L.cell
      replace Ll := L.lt
      have Ll_w4 := Ll
      replace Lf := L.frozen
      replace R : Loc w4 w.heap.size (.pointer none) 30 := loca
      replace Rc := R.cell
      replace Rl := R.lt
      have Rl_w4 := Rl
      replace Rf := R.frozen
      replace K : Kp w.heap.size [br] w w4 := kpa
      replace Kz := K.size
      have Kz_w4 := Kz
      clear hk4
      go_wp2_with fail
      refine (HO _ (by exact T.isN)).mono ?_
      rintro e w5 ⟨rfl, hk5⟩
      have z5 := hk5.size
      try simp at z5
      replace D : Rdr toks en br lim (q + 1) dep w5 := rda
      replace Dm := D.limle
      replace T : TreeAt w5 lo nv b2 left := tra
      replace Tm := T.le
      replace L : Loc w5 nv (ptrV b2) 30 := loca
      replace Lc := L.cell
      replace Ll := L.lt
      have Ll_w5 := Ll
      replace Lf := L.frozen
      replace R : Loc w5 w.heap.size (.pointer none) 30 := loca
      replace Rc := R.cell
      replace Rl := R.lt
      have Rl_w5 := Rl
      replace Rf := R.frozen
      replace K : Kp w.heap.size [br] w w5 := kpa
      replace Kz := K.size
      have Kz_w5 := Kz
      clear hk5
      go_wp2_with fail
      refine (HO _ (by exact T.isN)).mono ?_
      rintro e w6 ⟨rfl, hk6⟩
      have z6 := hk6.size
      try simp at z6
      replace D : Rdr toks en br lim (q + 1) dep w6 := rda
      replace Dm := D.limle
      replace T : TreeAt w6 lo nv b2 left := tra
      replace Tm := T.le
      replace L : Loc w6 nv (ptrV b2) 30 := loca
      replace Lc := L.cell
      replace Ll := L.lt
      have Ll_w6 := Ll
      replace Lf := L.frozen
      replace R : Loc w6 w.heap.size (.pointer none) 30 := loca
      replace Rc := R.cell
      replace Rl := R.lt
      have Rl_w6 := Rl
      replace Rf := R.frozen
      replace K : Kp w.heap.size [br] w w6 := kpa
      replace Kz := K.size
      have Kz_w6 := Kz
      clear hk6
      go_wp2_with fail
      refine (expect_no D ⟨#[61]⟩ (by rw [mk_toList]; exact ce)).mono ?_
      rintro e w7 ⟨rfl, hk7⟩
      have z7 := hk7.size
      try simp at z7
      go_wp2
      exact ⟨rfl, rfl, kpa⟩
  have o20b : (left.op == 20) = false := by simpa using o20
  rw [if_neg o20] at hr
  cases hr
  clear o18 o20 o21
  generalize left.op = o at *
  go_wp2_with fail
  refine (HO _ (by exact T.isN)).mono ?_
  rintro e w4 ⟨rfl, hk4⟩
  have z4 := hk4.size
  try simp at z4
  replace D : Rdr toks en br lim (q + 1) dep w4 := rda
  replace Dm := D.limle
  replace T : TreeAt w4 lo nv b2 left := tra
  replace Tm := T.le
  replace L : Loc w4 nv (ptrV b2) 30 := loca
  replace Lc := L.cell
  replace Ll := L.lt
  have Ll_w4 := Ll
  replace Lf := L.frozen
  replace R : Loc w4 w.heap.size (.pointer none) 30 := loca
  replace Rc := R.cell
  replace Rl := R.lt
  have Rl_w4 := Rl
  replace Rf := R.frozen
  replace K : Kp w.heap.size [br] w w4 := kpa
  replace Kz := K.size
  have Kz_w4 := Kz
  clear hk4
  go_wp2_with fail
  refine (HO _ (by exact T.isN)).mono ?_
  rintro e w5 ⟨rfl, hk5⟩
  have z5 := hk5.size
  try simp at z5
  replace D : Rdr toks en br lim (q + 1) dep w5 := rda
  replace Dm := D.limle
  replace T : TreeAt w5 lo nv b2 left := tra
  replace Tm := T.le
  replace L : Loc w5 nv (ptrV b2) 30 := loca
  replace Lc := L.cell
  replace Ll := L.lt
  have Ll_w5 := Ll
  replace Lf := L.frozen
  replace R : Loc w5 w.heap.size (.pointer none) 30 := loca
  replace Rc := R.cell
  replace Rl := R.lt
  have Rl_w5 := Rl
  replace Rf := R.frozen
  replace K : Kp w.heap.size [br] w w5 := kpa
  replace Kz := K.size
  have Kz_w5 := Kz
  clear hk5
  go_wp2_with fail
  refine (HO _ (by exact T.isN)).mono ?_
  rintro e w6 ⟨rfl, hk6⟩
  have z6 := hk6.size
  try simp at z6
  replace D : Rdr toks en br lim (q + 1) dep w6 := rda
  replace Dm := D.limle
  replace T : TreeAt w6 lo nv b2 left := tra
  replace Tm := T.le
  replace L : Loc w6 nv (ptrV b2) 30 := loca
  replace Lc := L.cell
  replace Ll := L.lt
  have Ll_w6 := Ll
  replace Lf := L.frozen
  replace R : Loc w6 w.heap.size (.pointer none) 30 := loca
  replace Rc := R.cell
  replace Rl := R.lt
  have Rl_w6 := Rl
  replace Rf := R.frozen
  replace K : Kp w.heap.size [br] w w6 := kpa
  replace Kz := K.size
  have Kz_w6 := Kz
  clear hk6
  go_wp2_with fail
  refine (fail_c (pos := q + 1) (dep := dep) (toks := toks) (en := en) (lim := lim) (rda)).mono ?_
  rintro e w7 ⟨rfl, hk7⟩
  have z7 := hk7.size
  try simp at z7
  go_wp2
  exact ⟨rfl, rfl, kpa⟩

end Go.Proofs.YtbplaekabeggkaaGreatDoor
