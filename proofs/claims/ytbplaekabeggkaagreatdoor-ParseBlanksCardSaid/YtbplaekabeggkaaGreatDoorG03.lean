/- PROVED: the law ParseBlanks of layer 4 answers true for every string, as its given card says (the listed package variables as the program lays them); no other condition. The parser, the lexer and the writer of the awake test are walked whole. Text 3 of 16. -/
import Derived.Test.YtbplaekabeggkaaGreatDoorG02
import Derived.Deep.LoopGhost
import Derived.Test.YtbplaekabeggkaaGreatDoorG01
set_option linter.unusedSimpArgs false
set_option linter.unusedVariables false
namespace Go.Proofs.YtbplaekabeggkaaGreatDoor
open Go.RowKit

set_option maxRecDepth 100000 in
set_option maxHeartbeats 1000000 in
theorem unary1_c {toks : List Tok} {en : Int} {br lim pos dep cb k : Nat} {w : World} (hU : CUnary k) (hR : Rdr toks en br lim pos dep w) (hd : dep ≤ 40) (hp : pos < toks.length)
    (htx : (tokAt toks en pos).text = [45] ∨ (tokAt toks en pos).text = [33]) (MC : Loc w cb (ptrV br) 73) (hcb : lim ≤ cb) (r : Res T)
    (hr : (match pUnary k toks en dep (pos + 1) with
      | some (.ok t p) => some (.ok (.mk 23 [] [] (signed1 (tokAt toks en pos).text) (tokAt toks en pos).at_ [t]) p)
      | o => o) = some r) :
    Calls Tryz.prog 223 #[.pointer (some ⟨cb, 0, none⟩)] w (PostN toks en br lim dep w r) := by
  have hlim := hR.limle
  have hbr := hR.lt
  have mlc := MC.lt
  have mc := MC.cell
  have hbc : br ≠ cb := by omega
  cases hX : pUnary k toks en dep (pos + 1) with
  | none => rw [hX] at hr; cases hr
  | some x =>
  rw [hX] at hr
  have HE := fun w1 (h1 : Rdr toks en br lim (pos + 1) dep w1) => hU toks en br lim (pos + 1) dep w1 x h1 hd hX
  clear hX hU
  cases x with
  | stop a er =>
    cases hr
    have : ¬ cb = br := sza
    have : ¬ br = cb := sza
    go_enter Tryz.func223, Tryz.ntmps223
    go_wp2_with fail
    refine (take_c (pos := pos) (dep := dep) (toks := toks) (en := en) (lim := lim) (rda) hp).mono ?_
    rintro e w1 ⟨rfl, hr1, hk1⟩
    have z1 := hk1.size
    try simp at z1
    have lc1_0 := fun o => hk1.cell (cb) o sza sza
    have lf1_0 := fun o => hk1.frozen (cb) o sza sza
    have ll1_0 : cb < w1.heap.size := sza
    try simp at lc1_0
    try simp at lf1_0
    have lb1_0 := hk1.block (cb) sza sza
    have MC1 : Loc w1 cb (ptrV br) 73 := loca
    have mc1 := MC1.cell
    generalize tokAt toks en pos = tk at *
    go_wp2_with fail
    refine wp_region_U (S := (fun W => W.cell? ⟨w1.heap.size, 2, none⟩ = some (.int .i64 tk.at_) ∧ W.cell? ⟨cb, 0, none⟩ = some (ptrV br))) (F := []) (by kernel_rfl) (by (first | (simp; done) | (simp [World.cell?_setCell_other, World.cell?_alloc_lt, *]; done))) (fun hHeld => ?_)
    refine tkU 0 (v := ?_) rfl (by kernel_rfl) (fun _ _ _ h => h) (Or.inl ⟨by rfl, ?_⟩) (by assumption) ?_
    rotate_left
    · intro w hSw; (try dsimp only at hSw); go_simp; try with_reducible rfl
    try simp only [Act.put, pz]
    refine tkU 1 (v := ?_) rfl (by kernel_rfl) (fun _ _ _ h => h) (Or.inl ⟨by rfl, ?_⟩) (by assumption) ?_
    rotate_left
    · intro w hSw; (try dsimp only at hSw); go_simp; try with_reducible rfl
    try simp only [Act.put, pz]
    refine tkU 2 (v := ?_) rfl (by kernel_rfl) (fun _ _ _ h => h) (Or.inl ⟨by rfl, ?_⟩) (by assumption) ?_
    rotate_left
    · intro w hSw; (try dsimp only at hSw); go_simp; try with_reducible rfl
    try simp only [Act.put, pz]
    have hTV := Blk.new w1 #[.int .i64 tk.kind, .string (B tk.text), .int .i64 tk.at_] 35
    have zz := hTV.lt
    refine wpAnyU_rs (rs := [3, 6]) (by kernel_rfl) (by simp) (AllU.cons rfl rfl (fun K1 hK => ?_) (AllU.cons rfl rfl (fun K1 hK => ?_) AllU.nil))
    · go_simp
      refine (HE _ (rda)).mono ?_
      clear hK
      rintro e w2 ⟨rfl, hk2⟩
      have z2 := hk2.size
      simp at z2
      go_wp2
      exact ⟨rfl, rfl, kpa⟩
    · go_simp
      try dsimp only
      try simp only [sz3]
      refine hK.out _ _ ?_ ?_
      · intro _; exact ⟨Blk.cell (v := #[.int .i64 tk.kind, .string (B tk.text), .int .i64 tk.at_]) (t := 35) (bka) 2, Loc.cell (t := 73) (loca)⟩
      clear hK K1
      try simp only [Act.put, pz]
      refine wpAnyU_one (i := 3) (by kernel_rfl) rfl rfl (fun K1 hK => ?_)
      go_simp
      refine (HE _ (rda)).mono ?_
      clear hK
      rintro e w2 ⟨rfl, hk2⟩
      have z2 := hk2.size
      simp at z2
      go_wp2
      exact ⟨rfl, rfl, kpa⟩
  | ok t p =>
    cases hr
    have hsg := fun w1 => signed1_c w1 (B (tokAt toks en pos).text) (by rw [B_toList]; exact htx)
    rw [B_toList] at hsg
    have htl := hR.text pos
    have : ¬ cb = br := sza
    have : ¬ br = cb := sza
    go_enter Tryz.func223, Tryz.ntmps223
    go_wp2_with fail
    refine (take_c (pos := pos) (dep := dep) (toks := toks) (en := en) (lim := lim) (rda) hp).mono ?_
    rintro e w1 ⟨rfl, hr1, hk1⟩
    have z1 := hk1.size
    try simp at z1
    have lc1_0 := fun o => hk1.cell (cb) o sza sza
    have lf1_0 := fun o => hk1.frozen (cb) o sza sza
    have ll1_0 : cb < w1.heap.size := sza
    try simp at lc1_0
    try simp at lf1_0
    have lb1_0 := hk1.block (cb) sza sza
    have MC1 : Loc w1 cb (ptrV br) 73 := loca
    have mc1 := MC1.cell
    have M01 : Loc w1 w.heap.size (.pointer none) 30 := loca
    have K1 : Kp w.heap.size [br] w w1 := kpa
    have m0l := M01.lt
    clear hk1 htx
    generalize tokAt toks en pos = tk at *
    generalize hsn : (signed1 tk.text : Int) = sn at *
    go_wp2_with fail
    have hTV := Blk.new w1 #[.int .i64 tk.kind, .string (B tk.text), .int .i64 tk.at_] 35
    generalize hW : w1.alloc (Obj.cells #[Value.int IntKind.i64 tk.kind, Value.string (B tk.text), Value.int IntKind.i64 tk.at_] 35) = W1 at *
    have hr1' : Rdr toks en br lim (pos + 1) dep W1 := by rw [← hW]; exact rda
    have MC1' : Loc W1 cb (ptrV br) 73 := by rw [← hW]; exact loca
    have M01' : Loc W1 w.heap.size (.pointer none) 30 := by rw [← hW]; exact loca
    have K1' : Kp w.heap.size [br] w W1 := by rw [← hW]; exact kpa
    have tvl := hTV.lt
    have cvl := MC1'.lt
    have rvl := M01'.lt
    have tv2 := hTV.cell 2
    have cv2 := MC1'.cell
    simp at tv2
    have ntv : w.heap.size < w1.heap.size := m0l
    generalize w1.heap.size = tv at *
    clear hW MC1 M01 K1 hr1 m0l
    refine wp_region_UR (R := fun a W => ∃ (b3 g bd n : Nat), a = { tmps := #[.pointer (some ⟨cb, 0, none⟩), .pointer (some ⟨w.heap.size, 0, none⟩), .pointer (some ⟨tv, 0, none⟩), .pointer (some ⟨n, 0, none⟩), ptrV br, .agg #[.int .i64 tk.kind, .string (B tk.text), .int .i64 tk.at_], .pointer (some ⟨tv, 2, none⟩), .int .i64 tk.at_, ptrV br, .agg #[ptrV b3], .slice (some ⟨g, 0, none⟩) 1 1, .agg #[ptrV bd], undef, undef, undef, undef, undef, undef, undef, undef, undef, undef, undef], defers := [] } ∧
      Rdr toks en br lim p dep W ∧ Loc W cb (ptrV br) 73 ∧ Loc W w.heap.size (.pointer none) 30 ∧ Kp w.heap.size [br] w W ∧ Blk W tv #[.int .i64 tk.kind, .string (B tk.text), .int .i64 tk.at_] 35 ∧ Loc W n (ptrV bd) 30 ∧ tv < n ∧
      NodeB W w.heap.size [w.heap.size, tv, n] bd 23 ⟨#[]⟩ ⟨#[]⟩ 0 tk.at_ (.slice (some ⟨g, 0, none⟩) 1 1) [b3] [t])
      (S := fun W => W.cell? ⟨tv, 2, none⟩ = some (.int .i64 tk.at_) ∧ W.cell? ⟨cb, 0, none⟩ = some (ptrV br)) (F := []) (by kernel_rfl) ⟨tv2, cv2⟩ ?_ (fun hHeld => ?_)
    · rintro a W ⟨b3, g, bd, n, rfl, xR, xC, x0, xK, xT, xn, xl, xN⟩
      have xcl := xC.lt
      have x0l := x0.lt
      have xtl := xT.lt
      have xnl := xn.lt
      have xz := xK.size
      have xc := xC.cell
      have xn0 := xn.cell
      have xt1 := xT.cell 1
      simp at xt1
      have xbl := xN.lt
      have xble := xN.lo_le
      obtain ⟨-, -, -, -, xn3, xf3, -, -⟩ := xN.cell
      dsimp only [Exit.then]
      go_wp2_with fail
      refine wp_region_U (S := (fun W' => W'.cell? ⟨n, 0, none⟩ = some (ptrV bd) ∧ W'.cell? ⟨tv, 1, none⟩ = some (.string (B tk.text)))) (F := []) (by kernel_rfl) (by (first | (simp; done) | (simp [World.cell?_setCell_other, World.cell?_alloc_lt, *]; done))) (fun hHeld => ?_)
      refine tkU 0 (v := ?_) rfl (by kernel_rfl) (fun _ _ _ h => h) (Or.inl ⟨by rfl, ?_⟩) (by assumption) ?_
      rotate_left
      · intro w hSw; (try dsimp only at hSw); go_simp; try with_reducible rfl
      try simp only [Act.put, pz]
      refine tkU 1 (v := ?_) rfl (by kernel_rfl) (fun _ _ _ h => h) (Or.inl ⟨by rfl, ?_⟩) (by assumption) ?_
      rotate_left
      · intro w hSw; (try dsimp only at hSw); go_simp; try with_reducible rfl
      try simp only [Act.put, pz]
      refine tkU 2 (v := ?_) rfl (by kernel_rfl) (fun _ _ _ h => h) (Or.inl ⟨by rfl, ?_⟩) (by assumption) ?_
      rotate_left
      · intro w hSw; (try dsimp only at hSw); go_simp; try with_reducible rfl
      try simp only [Act.put, pz]
      refine tkU 3 (v := ?_) rfl (by kernel_rfl) (fun _ _ _ h => h) (Or.inl ⟨by rfl, ?_⟩) (by assumption) ?_
      rotate_left
      · intro w hSw; (try dsimp only at hSw); go_simp; try with_reducible rfl
      try simp only [Act.put, pz]
      refine wpAnyU_one (i := 4) (by kernel_rfl) rfl rfl (fun K1 hK => ?_)
      go_simp
      refine (hsg _).mono ?_
      rintro e w4 ⟨⟨bb, rfl⟩, hk4⟩
      have z4 := hk4.size
      simp at z4
      have N4 := xN.drew.kp hk4 (by simp) (by simp)
      have n4 : Loc w4 n (ptrV bd) 30 := loca
      have t4 : Blk w4 tv #[.int .i64 tk.kind, .string (B tk.text), .int .i64 tk.at_] 35 := bka
      have r4 : Loc w4 w.heap.size (.pointer none) 30 := loca
      have r4c := r4.cell
      have r4f := r4.frozen
      have n4c := n4.cell
      have n4l := n4.lt
      have b4l := N4.lt
      obtain ⟨-, -, -, -, y3, yf3, -, -⟩ := N4.cell
      have nb1 : ¬ n = bd := fun e => by have := N4.notin; simp [e] at this
      have nb2 : ¬ tv = bd := fun e => by have := N4.notin; simp [e] at this
      have nb3 : ¬ w.heap.size = bd := fun e => by have := N4.notin; simp [e] at this
      have nb4 : ¬ bd = n := fun e => nb1 e.symm
      have nb5 : ¬ bd = w.heap.size := fun e => nb3 e.symm
      have nb6 : ¬ n = w.heap.size := by omega
      have nb7 : ¬ w.heap.size = n := by omega
      try dsimp only
      try simp only [sz3]
      refine hK.out _ _ ?_ ?_
      · intro _; exact ⟨n4.cell, Blk.cell (v := #[.int .i64 tk.kind, .string (B tk.text), .int .i64 tk.at_]) (t := 35) t4 1⟩
      clear hK K1
      try simp only [Act.put, pz]
      have S4 : w4.cell? ⟨n, 0, none⟩ = some (ptrV bd) ∧ w4.cell? ⟨tv, 1, none⟩ = some (.string (B tk.text)) := ⟨n4.cell, Blk.cell (v := #[.int .i64 tk.kind, .string (B tk.text), .int .i64 tk.at_]) (t := 35) t4 1⟩
      refine tkU 5 (v := ?_) rfl (by kernel_rfl) (fun _ _ _ h => h) (Or.inl ⟨by rfl, ?_⟩) (by assumption) ?_
      rotate_left
      · intro w hSw; (try dsimp only at hSw); go_simp; try with_reducible rfl
      try simp only [Act.put, pz]
      refine tkU 6 (v := ?_) rfl (by kernel_rfl) (fun _ _ _ h => h) (Or.inl ⟨by rfl, ?_⟩) (by assumption) ?_
      rotate_left
      · intro w hSw; (try dsimp only at hSw); go_simp; try with_reducible rfl
      try simp only [Act.put, pz]
      refine tkU 7 (v := ?_) rfl (by kernel_rfl) (fun _ _ _ h => h) (Or.inl ⟨by rfl, ?_⟩) (by assumption) ?_
      rotate_left
      · intro w hSw; (try dsimp only at hSw); go_simp; try with_reducible rfl
      try simp only [Act.put, pz]
      refine tkU 8 (v := ?_) rfl (by kernel_rfl) (fun _ _ _ h => h) (Or.inl ⟨by rfl, ?_⟩) (by assumption) ?_
      rotate_left
      · intro w hSw; (try dsimp only at hSw); go_simp; try with_reducible rfl
      try simp only [Act.put, pz]
      refine tkU 9 (v := ?_) rfl (by kernel_rfl) (fun _ _ _ h => h) (Or.inl ⟨by rfl, ?_⟩) (by assumption) ?_
      rotate_left
      · intro w hSw; (try dsimp only at hSw); go_simp; try with_reducible rfl
      try simp only [Act.put, pz]
      refine wpAnyU_one (i := 10) (by kernel_rfl) rfl rfl (fun K1 hK => ?_)
      go_simp
      try dsimp only
      try simp only [sz3]
      refine hK.out _ _ ?_ ?_
      · intro _; exact ⟨(n4.other 3 _ nb1).cell, Blk.cell (v := #[.int .i64 tk.kind, .string (B tk.text), .int .i64 tk.at_]) (t := 35) (t4.other 3 _ nb2) 1⟩
      clear hK K1
      try simp only [Act.put, pz]
      refine wpAnyU_done (by kernel_rfl) ?_ _
      have N5 := N4.setAt 3 (.int .i64 sn) rfl
      dsimp only [Exit.then]
      go_wp2
      refine bodyPost_ret (v := .agg #[ptrV bd]) (by simp [results, Tryz.results223, go_sem, *]) rfl ?_
      have N6 := N5.setEx (b := w.heap.size) 0 (ptrV bd) (by left; simp)
      refine ⟨bd, rfl, ?_, rda, kpa⟩
      exact N6.isT rfl rfl
    refine tkU 0 (v := ?_) rfl (by kernel_rfl) (fun _ _ _ h => h) (Or.inl ⟨by rfl, ?_⟩) (by assumption) ?_
    rotate_left
    · intro w hSw; (try dsimp only at hSw); go_simp; try with_reducible rfl
    try simp only [Act.put, pz]
    refine tkU 1 (v := ?_) rfl (by kernel_rfl) (fun _ _ _ h => h) (Or.inl ⟨by rfl, ?_⟩) (by assumption) ?_
    rotate_left
    · intro w hSw; (try dsimp only at hSw); go_simp; try with_reducible rfl
    try simp only [Act.put, pz]
    refine tkU 2 (v := ?_) rfl (by kernel_rfl) (fun _ _ _ h => h) (Or.inl ⟨by rfl, ?_⟩) (by assumption) ?_
    rotate_left
    · intro w hSw; (try dsimp only at hSw); go_simp; try with_reducible rfl
    try simp only [Act.put, pz]
    refine wpAnyU_rs (rs := [3, 6]) (by kernel_rfl) (by simp) (AllU.cons rfl rfl (fun K1 hK => ?_) (AllU.cons rfl rfl (fun K1 hK => ?_) AllU.nil))
    · go_simp
      refine (HE _ (rda)).mono ?_
      rintro e w3 ⟨b3, rfl, hT3, hr3, hk3⟩
      have z3 := hk3.size
      simp at z3
      try dsimp only
      try simp only [sz3]
      refine hK.out _ _ ?_ ?_
      · intro _; exact ⟨Blk.cell (v := #[.int .i64 tk.kind, .string (B tk.text), .int .i64 tk.at_]) (t := 35) (bka) 2, Loc.cell (t := 73) (loca)⟩
      clear hK K1
      try simp only [Act.put, pz]
      refine wpAnyU_rs (rs := [4, 6]) (by kernel_rfl) (by simp) (AllU.cons rfl rfl (fun K1 hK => ?_) (AllU.cons rfl rfl (fun K1 hK => ?_) AllU.nil))
      · go_simp
        try dsimp only
        try simp only [sz3]
        refine hK.out _ _ ?_ ?_
        · intro _; exact ⟨Blk.cell (v := #[.int .i64 tk.kind, .string (B tk.text), .int .i64 tk.at_]) (t := 35) (bka) 2, Loc.cell (t := 73) (loca)⟩
        clear hK K1
        try simp only [Act.put, pz]
        refine wpAnyU_rs (rs := [5, 6]) (by kernel_rfl) (by simp) (AllU.cons rfl rfl (fun K1 hK => ?_) (AllU.cons rfl rfl (fun K1 hK => ?_) AllU.nil))
        · go_simp
          refine (plain_c _ _ _ _ _ _).mono ?_
          rintro e w5 ⟨rfl, s5, b5, hk5⟩
          have z5 := hk5.size
          simp at s5 z5 b5
          have z5' := Nat.le_of_eq s5.symm
          have B5 := Blk.mk b5
          clear s5
          try dsimp only
          try simp only [sz3]
          refine hK.out _ _ ?_ ?_
          · intro _; exact ⟨Blk.cell (v := #[.int .i64 tk.kind, .string (B tk.text), .int .i64 tk.at_]) (t := 35) (bka) 2, Loc.cell (t := 73) (loca)⟩
          clear hK K1
          try simp only [Act.put, pz]
          refine wpAnyU_rs (rs := [6]) (by kernel_rfl) (by simp) (AllU.cons rfl rfl (fun K1 hK => ?_) AllU.nil)
          go_simp
          try dsimp only
          try simp only [sz3]
          refine hK.out _ _ ?_ ?_
          · intro _; exact ⟨Blk.cell (v := #[.int .i64 tk.kind, .string (B tk.text), .int .i64 tk.at_]) (t := 35) (bka) 2, Loc.cell (t := 73) (loca)⟩
          clear hK K1
          try simp only [Act.put, pz]
          refine wpAnyU_rs (rs := [7]) (by kernel_rfl) (by simp) (AllU.cons rfl rfl (fun K1 hK => ?_) AllU.nil)
          refine st_node 3 11 rfl _ _ (.pointer none) rfl rfl (loca) ?_
          try dsimp only
          try simp only [sz3]
          refine hK.out _ _ ?_ ?_
          · intro _; exact ⟨Blk.cell (v := #[.int .i64 tk.kind, .string (B tk.text), .int .i64 tk.at_]) (t := 35) (bka) 2, Loc.cell (t := 73) (loca)⟩
          clear hK K1
          try simp only [Act.put, pz]
          refine wpAnyU_done (by kernel_rfl) ?_ _
          refine ⟨_, _, _, _, rfl, rda, loca, loca, kpa, bka, loca, sza, ?_⟩
          refine NodeB.built (bs := [b3]) sza sza (by simp; omega) sza (by simp; omega) (by omega) (Blk.blk (t := 30) (bka)) (by simp) (Blk.blk (t := 108) (bka)) ?_
          refine Kids.one ?_ ?_ ?_ (IsT.frame (Nat.le_refl _) (Nat.le_refl _) (fun k hk hk' => ?_) _ _ hT3)
          · simp; omega
          · simp; omega
          · intro x hx
            simp at hx ⊢
            omega
          · try simp at hk
            (repeat' (first | rfl | (rw [hS_ne (by omega)]) | (rw [hA_old (by first | omega | (simp; omega))]) | (rw [hD]) | (rw [hk5.block k (by simp; omega) (by simp)])))
        · go_simp
          try dsimp only
          try simp only [sz3]
          refine hK.out _ _ ?_ ?_
          · intro _; exact ⟨Blk.cell (v := #[.int .i64 tk.kind, .string (B tk.text), .int .i64 tk.at_]) (t := 35) (bka) 2, Loc.cell (t := 73) (loca)⟩
          clear hK K1
          try simp only [Act.put, pz]
          refine wpAnyU_rs (rs := [5]) (by kernel_rfl) (by simp) (AllU.cons rfl rfl (fun K1 hK => ?_) AllU.nil)
          go_simp
          refine (plain_c _ _ _ _ _ _).mono ?_
          rintro e w5 ⟨rfl, s5, b5, hk5⟩
          have z5 := hk5.size
          simp at s5 z5 b5
          have z5' := Nat.le_of_eq s5.symm
          have B5 := Blk.mk b5
          clear s5
          try dsimp only
          try simp only [sz3]
          refine hK.out _ _ ?_ ?_
          · intro _; exact ⟨Blk.cell (v := #[.int .i64 tk.kind, .string (B tk.text), .int .i64 tk.at_]) (t := 35) (bka) 2, Loc.cell (t := 73) (loca)⟩
          clear hK K1
          try simp only [Act.put, pz]
          refine wpAnyU_rs (rs := [7]) (by kernel_rfl) (by simp) (AllU.cons rfl rfl (fun K1 hK => ?_) AllU.nil)
          refine st_node 3 11 rfl _ _ (.pointer none) rfl rfl (loca) ?_
          try dsimp only
          try simp only [sz3]
          refine hK.out _ _ ?_ ?_
          · intro _; exact ⟨Blk.cell (v := #[.int .i64 tk.kind, .string (B tk.text), .int .i64 tk.at_]) (t := 35) (bka) 2, Loc.cell (t := 73) (loca)⟩
          clear hK K1
          try simp only [Act.put, pz]
          refine wpAnyU_done (by kernel_rfl) ?_ _
          refine ⟨_, _, _, _, rfl, rda, loca, loca, kpa, bka, loca, sza, ?_⟩
          refine NodeB.built (bs := [b3]) sza sza (by simp; omega) sza (by simp; omega) (by omega) (Blk.blk (t := 30) (bka)) (by simp) (Blk.blk (t := 108) (bka)) ?_
          refine Kids.one ?_ ?_ ?_ (IsT.frame (Nat.le_refl _) (Nat.le_refl _) (fun k hk hk' => ?_) _ _ hT3)
          · simp; omega
          · simp; omega
          · intro x hx
            simp at hx ⊢
            omega
          · try simp at hk
            (repeat' (first | rfl | (rw [hS_ne (by omega)]) | (rw [hA_old (by first | omega | (simp; omega))]) | (rw [hD]) | (rw [hk5.block k (by simp; omega) (by simp)])))
      · go_simp
        try dsimp only
        try simp only [sz3]
        refine hK.out _ _ ?_ ?_
        · intro _; exact ⟨Blk.cell (v := #[.int .i64 tk.kind, .string (B tk.text), .int .i64 tk.at_]) (t := 35) (bka) 2, Loc.cell (t := 73) (loca)⟩
        clear hK K1
        try simp only [Act.put, pz]
        refine wpAnyU_rs (rs := [4]) (by kernel_rfl) (by simp) (AllU.cons rfl rfl (fun K1 hK => ?_) AllU.nil)
        go_simp
        try dsimp only
        try simp only [sz3]
        refine hK.out _ _ ?_ ?_
        · intro _; exact ⟨Blk.cell (v := #[.int .i64 tk.kind, .string (B tk.text), .int .i64 tk.at_]) (t := 35) (bka) 2, Loc.cell (t := 73) (loca)⟩
        clear hK K1
        try simp only [Act.put, pz]
        refine wpAnyU_rs (rs := [5]) (by kernel_rfl) (by simp) (AllU.cons rfl rfl (fun K1 hK => ?_) AllU.nil)
        go_simp
        refine (plain_c _ _ _ _ _ _).mono ?_
        rintro e w5 ⟨rfl, s5, b5, hk5⟩
        have z5 := hk5.size
        simp at s5 z5 b5
        have z5' := Nat.le_of_eq s5.symm
        have B5 := Blk.mk b5
        clear s5
        try dsimp only
        try simp only [sz3]
        refine hK.out _ _ ?_ ?_
        · intro _; exact ⟨Blk.cell (v := #[.int .i64 tk.kind, .string (B tk.text), .int .i64 tk.at_]) (t := 35) (bka) 2, Loc.cell (t := 73) (loca)⟩
        clear hK K1
        try simp only [Act.put, pz]
        refine wpAnyU_rs (rs := [7]) (by kernel_rfl) (by simp) (AllU.cons rfl rfl (fun K1 hK => ?_) AllU.nil)
        refine st_node 3 11 rfl _ _ (.pointer none) rfl rfl (loca) ?_
        try dsimp only
        try simp only [sz3]
        refine hK.out _ _ ?_ ?_
        · intro _; exact ⟨Blk.cell (v := #[.int .i64 tk.kind, .string (B tk.text), .int .i64 tk.at_]) (t := 35) (bka) 2, Loc.cell (t := 73) (loca)⟩
        clear hK K1
        try simp only [Act.put, pz]
        refine wpAnyU_done (by kernel_rfl) ?_ _
        refine ⟨_, _, _, _, rfl, rda, loca, loca, kpa, bka, loca, sza, ?_⟩
        refine NodeB.built (bs := [b3]) sza sza (by simp; omega) sza (by simp; omega) (by omega) (Blk.blk (t := 30) (bka)) (by simp) (Blk.blk (t := 108) (bka)) ?_
        refine Kids.one ?_ ?_ ?_ (IsT.frame (Nat.le_refl _) (Nat.le_refl _) (fun k hk hk' => ?_) _ _ hT3)
        · simp; omega
        · simp; omega
        · intro x hx
          simp at hx ⊢
          omega
        · try simp at hk
          (repeat' (first | rfl | (rw [hS_ne (by omega)]) | (rw [hA_old (by first | omega | (simp; omega))]) | (rw [hD]) | (rw [hk5.block k (by simp; omega) (by simp)])))
    · go_simp
      try dsimp only
      try simp only [sz3]
      refine hK.out _ _ ?_ ?_
      · intro _; exact ⟨Blk.cell (v := #[.int .i64 tk.kind, .string (B tk.text), .int .i64 tk.at_]) (t := 35) (bka) 2, Loc.cell (t := 73) (loca)⟩
      clear hK K1
      try simp only [Act.put, pz]
      refine wpAnyU_rs (rs := [3]) (by kernel_rfl) (by simp) (AllU.cons rfl rfl (fun K1 hK => ?_) AllU.nil)
      go_simp
      refine (HE _ (rda)).mono ?_
      rintro e w3 ⟨b3, rfl, hT3, hr3, hk3⟩
      have z3 := hk3.size
      simp at z3
      try dsimp only
      try simp only [sz3]
      refine hK.out _ _ ?_ ?_
      · intro _; exact ⟨Blk.cell (v := #[.int .i64 tk.kind, .string (B tk.text), .int .i64 tk.at_]) (t := 35) (bka) 2, Loc.cell (t := 73) (loca)⟩
      clear hK K1
      try simp only [Act.put, pz]
      refine wpAnyU_rs (rs := [4]) (by kernel_rfl) (by simp) (AllU.cons rfl rfl (fun K1 hK => ?_) AllU.nil)
      go_simp
      try dsimp only
      try simp only [sz3]
      refine hK.out _ _ ?_ ?_
      · intro _; exact ⟨Blk.cell (v := #[.int .i64 tk.kind, .string (B tk.text), .int .i64 tk.at_]) (t := 35) (bka) 2, Loc.cell (t := 73) (loca)⟩
      clear hK K1
      try simp only [Act.put, pz]
      refine wpAnyU_rs (rs := [5]) (by kernel_rfl) (by simp) (AllU.cons rfl rfl (fun K1 hK => ?_) AllU.nil)
      go_simp
      refine (plain_c _ _ _ _ _ _).mono ?_
      rintro e w5 ⟨rfl, s5, b5, hk5⟩
      have z5 := hk5.size
      simp at s5 z5 b5
      have z5' := Nat.le_of_eq s5.symm
      have B5 := Blk.mk b5
      clear s5
      try dsimp only
      try simp only [sz3]
      refine hK.out _ _ ?_ ?_
      · intro _; exact ⟨Blk.cell (v := #[.int .i64 tk.kind, .string (B tk.text), .int .i64 tk.at_]) (t := 35) (bka) 2, Loc.cell (t := 73) (loca)⟩
      clear hK K1
      try simp only [Act.put, pz]
      refine wpAnyU_rs (rs := [7]) (by kernel_rfl) (by simp) (AllU.cons rfl rfl (fun K1 hK => ?_) AllU.nil)
      refine st_node 3 11 rfl _ _ (.pointer none) rfl rfl (loca) ?_
      try dsimp only
      try simp only [sz3]
      refine hK.out _ _ ?_ ?_
      · intro _; exact ⟨Blk.cell (v := #[.int .i64 tk.kind, .string (B tk.text), .int .i64 tk.at_]) (t := 35) (bka) 2, Loc.cell (t := 73) (loca)⟩
      clear hK K1
      try simp only [Act.put, pz]
      refine wpAnyU_done (by kernel_rfl) ?_ _
      refine ⟨_, _, _, _, rfl, rda, loca, loca, kpa, bka, loca, sza, ?_⟩
      refine NodeB.built (bs := [b3]) sza sza (by simp; omega) sza (by simp; omega) (by omega) (Blk.blk (t := 30) (bka)) (by simp) (Blk.blk (t := 108) (bka)) ?_
      refine Kids.one ?_ ?_ ?_ (IsT.frame (Nat.le_refl _) (Nat.le_refl _) (fun k hk hk' => ?_) _ _ hT3)
      · simp; omega
      · simp; omega
      · intro x hx
        simp at hx ⊢
        omega
      · try simp at hk
        (repeat' (first | rfl | (rw [hS_ne (by omega)]) | (rw [hA_old (by first | omega | (simp; omega))]) | (rw [hD]) | (rw [hk5.block k (by simp; omega) (by simp)])))

end Go.Proofs.YtbplaekabeggkaaGreatDoor

namespace Go.Proofs.YtbplaekabeggkaaGreatDoor
open Go.RowKit

theorem cf223 (cb : Nat) (w : World) : (callFunc 223 #[.pointer (some ⟨cb, 0, none⟩)]).run Tryz.prog w = .ok (.enter 223 #[.pointer (some ⟨cb, 0, none⟩)]) w := by kernel_rfl

set_option maxRecDepth 100000 in
set_option maxHeartbeats 400000 in
theorem unary_step {k : Nat} (hU : CUnary k) (hP : CPostfix k) : CUnary (k + 1) := by
  intro toks en br lim pos dep w r hR hd hr
  have hlim := hR.limle
  have hbr := hR.lt
  rw [pUnary] at hr
  by_cases c : isTok (tokAt toks en pos) kMinus = true ∨ isTok (tokAt toks en pos) kBang = true
  · rw [if_pos c] at hr
    have hp : pos < toks.length := c.elim isTok_lt isTok_lt
    have htx : (tokAt toks en pos).text = [45] ∨ (tokAt toks en pos).text = [33] := by
      rcases c with c | c
      · left; simp [isTok, kMinus] at c; exact c.1
      · right; simp [isTok, kBang] at c; exact c.1
    have hD : ∀ (w1 : World), Rdr toks en br lim pos dep w1 → Loc w1 w.heap.size (ptrV br) 73 → Calls Tryz.prog 158 #[.pointer (some ⟨br, 0, none⟩), .func (.func 223) #[] #[.pointer (some ⟨w.heap.size, 0, none⟩)]] w1 (PostN toks en br lim dep w1 r) := by
      intro w1 h1 hl
      have hll := hl.lt
      refine deeper_c h1 223 _ (cf223 _) hd r (fun h => ?_) (fun h w2 h2 k2 => ?_)
      · rw [if_pos h] at hr; cases hr; rfl
      · rw [if_neg (by omega)] at hr
        exact unary1_c hU h2 h hp htx (hl.kp k2 (by omega) (by simp; omega)) hlim r hr
    clear hr htx hU hP
    by_cases cm : isTok (tokAt toks en pos) kMinus = true
    · clear c
      have : ¬ w.heap.size = br := sza
      have : ¬ br = w.heap.size := sza
      have : ¬ w.heap.size + 1 = w.heap.size := sza
      have : ¬ w.heap.size = w.heap.size + 1 := sza
      have : ¬ w.heap.size + 1 = br := sza
      have : ¬ br = w.heap.size + 1 := sza
      go_enter Tryz.func201, Tryz.ntmps201
      go_wp2_with fail
      refine ((is_c (pos := pos) (dep := dep) (toks := toks) (en := en) (lim := lim) (rda) ⟨#[45]⟩).mono ?_)
      rw [mk_toList, show isTok _ (#[45] : Array UInt8).toList = true from cm]
      rintro e w1 ⟨rfl, hk1⟩
      have z1 := hk1.size
      try simp at z1
      have lc1_0 := fun o => hk1.cell (w.heap.size) o sza sza
      have lf1_0 := fun o => hk1.frozen (w.heap.size) o sza sza
      have ll1_0 : w.heap.size < w1.heap.size := sza
      try simp at lc1_0
      try simp at lf1_0
      have lb1_0 := hk1.block (w.heap.size) sza sza
      have lc1_1 := fun o => hk1.cell (w.heap.size + 1) o sza sza
      have lf1_1 := fun o => hk1.frozen (w.heap.size + 1) o sza sza
      have ll1_1 : w.heap.size + 1 < w1.heap.size := sza
      try simp at lc1_1
      try simp at lf1_1
      have lb1_1 := hk1.block (w.heap.size + 1) sza sza
      have hr1 : Rdr toks en br lim pos dep w1 := rda
      go_wp2_with fail
      refine (hD _ hr1 (loca)).mono ?_
      cases r with
      | stop a er =>
        rintro e w2 ⟨rfl, hk2⟩
        have z2 := hk2.size
        try simp at z2
        go_wp2
        exact ⟨rfl, rfl, kpa⟩
      | ok t p =>
        rintro e w2 ⟨b2, rfl, hT2, hr2, hk2⟩
        have z2 := hk2.size
        try simp at z2
        have lc2_0 := fun o => hk2.cell (w.heap.size) o sza sza
        have lf2_0 := fun o => hk2.frozen (w.heap.size) o sza sza
        have ll2_0 : w.heap.size < w2.heap.size := sza
        try simp at lc2_0
        try simp at lf2_0
        have lb2_0 := hk2.block (w.heap.size) sza sza
        have lc2_1 := fun o => hk2.cell (w.heap.size + 1) o sza sza
        have lf2_1 := fun o => hk2.frozen (w.heap.size + 1) o sza sza
        have ll2_1 : w.heap.size + 1 < w2.heap.size := sza
        try simp at lc2_1
        try simp at lf2_1
        have lb2_1 := hk2.block (w.heap.size + 1) sza sza
        go_wp2
        refine bodyPost_ret (v := .agg #[ptrV b2]) (by simp [results, Tryz.results201, go_sem, *]) rfl ?_
        refine ⟨b2, rfl, ?_, rda, kpa⟩
        refine IsT.frame sza sza (fun k hk hk' => ?_) _ _ hT2
        try simp at hk
        (repeat' (first | rfl | (rw [hS_ne (by first | omega | (simp; omega))]) | (rw [hA_old (by first | omega | (simp; omega))]) | (rw [hD]) | (rw [hDN])))
    · have cb := c.resolve_left cm
      rw [Bool.not_eq_true] at cm
      clear c
      have : ¬ w.heap.size = br := sza
      have : ¬ br = w.heap.size := sza
      have : ¬ w.heap.size + 1 = w.heap.size := sza
      have : ¬ w.heap.size = w.heap.size + 1 := sza
      have : ¬ w.heap.size + 1 = br := sza
      have : ¬ br = w.heap.size + 1 := sza
      go_enter Tryz.func201, Tryz.ntmps201
      go_wp2_with fail
      refine ((is_c (pos := pos) (dep := dep) (toks := toks) (en := en) (lim := lim) (rda) ⟨#[45]⟩).mono ?_)
      rw [mk_toList, show isTok _ (#[45] : Array UInt8).toList = false from cm]
      rintro e w1 ⟨rfl, hk1⟩
      have z1 := hk1.size
      try simp at z1
      have lc1_0 := fun o => hk1.cell (w.heap.size) o sza sza
      have lf1_0 := fun o => hk1.frozen (w.heap.size) o sza sza
      have ll1_0 : w.heap.size < w1.heap.size := sza
      try simp at lc1_0
      try simp at lf1_0
      have lb1_0 := hk1.block (w.heap.size) sza sza
      have lc1_1 := fun o => hk1.cell (w.heap.size + 1) o sza sza
      have lf1_1 := fun o => hk1.frozen (w.heap.size + 1) o sza sza
      have ll1_1 : w.heap.size + 1 < w1.heap.size := sza
      try simp at lc1_1
      try simp at lf1_1
      have lb1_1 := hk1.block (w.heap.size + 1) sza sza
      have hr1 : Rdr toks en br lim pos dep w1 := rda
      go_wp2_with fail
      refine ((is_c (pos := pos) (dep := dep) (toks := toks) (en := en) (lim := lim) (rda) ⟨#[33]⟩).mono ?_)
      rw [mk_toList, show isTok _ (#[33] : Array UInt8).toList = true from cb]
      rintro e w3 ⟨rfl, hk3⟩
      have z3 := hk3.size
      try simp at z3
      have lc3_0 := fun o => hk3.cell (w.heap.size) o sza sza
      have lf3_0 := fun o => hk3.frozen (w.heap.size) o sza sza
      have ll3_0 : w.heap.size < w3.heap.size := sza
      try simp at lc3_0
      try simp at lf3_0
      have lb3_0 := hk3.block (w.heap.size) sza sza
      have lc3_1 := fun o => hk3.cell (w.heap.size + 1) o sza sza
      have lf3_1 := fun o => hk3.frozen (w.heap.size + 1) o sza sza
      have ll3_1 : w.heap.size + 1 < w3.heap.size := sza
      try simp at lc3_1
      try simp at lf3_1
      have lb3_1 := hk3.block (w.heap.size + 1) sza sza
      have hr3 : Rdr toks en br lim pos dep w3 := rda
      go_wp2_with fail
      refine (hD _ hr3 (loca)).mono ?_
      cases r with
      | stop a er =>
        rintro e w2 ⟨rfl, hk2⟩
        have z2 := hk2.size
        try simp at z2
        go_wp2
        exact ⟨rfl, rfl, kpa⟩
      | ok t p =>
        rintro e w2 ⟨b2, rfl, hT2, hr2, hk2⟩
        have z2 := hk2.size
        try simp at z2
        have lc2_0 := fun o => hk2.cell (w.heap.size) o sza sza
        have lf2_0 := fun o => hk2.frozen (w.heap.size) o sza sza
        have ll2_0 : w.heap.size < w2.heap.size := sza
        try simp at lc2_0
        try simp at lf2_0
        have lb2_0 := hk2.block (w.heap.size) sza sza
        have lc2_1 := fun o => hk2.cell (w.heap.size + 1) o sza sza
        have lf2_1 := fun o => hk2.frozen (w.heap.size + 1) o sza sza
        have ll2_1 : w.heap.size + 1 < w2.heap.size := sza
        try simp at lc2_1
        try simp at lf2_1
        have lb2_1 := hk2.block (w.heap.size + 1) sza sza
        go_wp2
        refine bodyPost_ret (v := .agg #[ptrV b2]) (by simp [results, Tryz.results201, go_sem, *]) rfl ?_
        refine ⟨b2, rfl, ?_, rda, kpa⟩
        refine IsT.frame sza sza (fun k hk hk' => ?_) _ _ hT2
        try simp at hk
        (repeat' (first | rfl | (rw [hS_ne (by first | omega | (simp; omega))]) | (rw [hA_old (by first | omega | (simp; omega))]) | (rw [hD]) | (rw [hDN])))
  · rw [if_neg c] at hr
    have cm : isTok (tokAt toks en pos) kMinus = false := by cases h : isTok (tokAt toks en pos) kMinus <;> simp_all
    have cb : isTok (tokAt toks en pos) kBang = false := by cases h : isTok (tokAt toks en pos) kBang <;> simp_all
    clear c hU
    have : ¬ w.heap.size = br := sza
    have : ¬ br = w.heap.size := sza
    have : ¬ w.heap.size + 1 = w.heap.size := sza
    have : ¬ w.heap.size = w.heap.size + 1 := sza
    have : ¬ w.heap.size + 1 = br := sza
    have : ¬ br = w.heap.size + 1 := sza
    go_enter Tryz.func201, Tryz.ntmps201
    go_wp2_with fail
    refine ((is_c (pos := pos) (dep := dep) (toks := toks) (en := en) (lim := lim) (rda) ⟨#[45]⟩).mono ?_)
    rw [mk_toList, show isTok _ (#[45] : Array UInt8).toList = false from cm]
    rintro e w1 ⟨rfl, hk1⟩
    have z1 := hk1.size
    try simp at z1
    have lc1_0 := fun o => hk1.cell (w.heap.size) o sza sza
    have lf1_0 := fun o => hk1.frozen (w.heap.size) o sza sza
    have ll1_0 : w.heap.size < w1.heap.size := sza
    try simp at lc1_0
    try simp at lf1_0
    have lb1_0 := hk1.block (w.heap.size) sza sza
    have lc1_1 := fun o => hk1.cell (w.heap.size + 1) o sza sza
    have lf1_1 := fun o => hk1.frozen (w.heap.size + 1) o sza sza
    have ll1_1 : w.heap.size + 1 < w1.heap.size := sza
    try simp at lc1_1
    try simp at lf1_1
    have lb1_1 := hk1.block (w.heap.size + 1) sza sza
    have hr1 : Rdr toks en br lim pos dep w1 := rda
    go_wp2_with fail
    refine ((is_c (pos := pos) (dep := dep) (toks := toks) (en := en) (lim := lim) (rda) ⟨#[33]⟩).mono ?_)
    rw [mk_toList, show isTok _ (#[33] : Array UInt8).toList = false from cb]
    rintro e w3 ⟨rfl, hk3⟩
    have z3 := hk3.size
    try simp at z3
    have lc3_0 := fun o => hk3.cell (w.heap.size) o sza sza
    have lf3_0 := fun o => hk3.frozen (w.heap.size) o sza sza
    have ll3_0 : w.heap.size < w3.heap.size := sza
    try simp at lc3_0
    try simp at lf3_0
    have lb3_0 := hk3.block (w.heap.size) sza sza
    have lc3_1 := fun o => hk3.cell (w.heap.size + 1) o sza sza
    have lf3_1 := fun o => hk3.frozen (w.heap.size + 1) o sza sza
    have ll3_1 : w.heap.size + 1 < w3.heap.size := sza
    try simp at lc3_1
    try simp at lf3_1
    have lb3_1 := hk3.block (w.heap.size + 1) sza sza
    have hr3 : Rdr toks en br lim pos dep w3 := rda
    go_wp2_with fail
    refine (hP _ _ _ _ _ _ _ _ hr3 hd hr).mono ?_
    cases r with
    | stop a er =>
      rintro e w2 ⟨rfl, hk2⟩
      have z2 := hk2.size
      try simp at z2
      go_wp2
      exact ⟨rfl, rfl, kpa⟩
    | ok t p =>
      rintro e w2 ⟨b2, rfl, hT2, hr2, hk2⟩
      have z2 := hk2.size
      try simp at z2
      have lc2_0 := fun o => hk2.cell (w.heap.size) o sza sza
      have lf2_0 := fun o => hk2.frozen (w.heap.size) o sza sza
      have ll2_0 : w.heap.size < w2.heap.size := sza
      try simp at lc2_0
      try simp at lf2_0
      have lb2_0 := hk2.block (w.heap.size) sza sza
      have lc2_1 := fun o => hk2.cell (w.heap.size + 1) o sza sza
      have lf2_1 := fun o => hk2.frozen (w.heap.size + 1) o sza sza
      have ll2_1 : w.heap.size + 1 < w2.heap.size := sza
      try simp at lc2_1
      try simp at lf2_1
      have lb2_1 := hk2.block (w.heap.size + 1) sza sza
      go_wp2
      refine bodyPost_ret (v := .agg #[ptrV b2]) (by simp [results, Tryz.results201, go_sem, *]) rfl ?_
      refine ⟨b2, rfl, ?_, rda, kpa⟩
      refine IsT.frame sza sza (fun k hk hk' => ?_) _ _ hT2
      try simp at hk
      (repeat' (first | rfl | (rw [hS_ne (by first | omega | (simp; omega))]) | (rw [hA_old (by first | omega | (simp; omega))]) | (rw [hD]) | (rw [hDN])))

end Go.Proofs.YtbplaekabeggkaaGreatDoor

namespace Go.Proofs.YtbplaekabeggkaaGreatDoor
open Go.RowKit

mutual
/-- block b holds the tree; all of it lies in [lo, hi), none of it in ex -/
def IsX (w : World) (lo hi : Nat) (ex : List Nat) (b : Nat) : T → Prop
  | .mk op name typ n at_ kids => lo ≤ b ∧ b < hi ∧ b ∉ ex ∧ ∃ sv bs, w.heap[b]? = some (.cells #[.int .i64 op, .string (B name), .string (B typ), .int .i64 n, .int .i64 at_, sv] 108 (0, 0)) ∧
      w.ownsRow lo 30 1 sv bs.length (bs.map ptrV) ∧ (∀ g, sv.ownBlock = some g → g < hi ∧ g ∉ ex) ∧ IsXL w lo hi ex bs kids
def IsXL (w : World) (lo hi : Nat) (ex : List Nat) : List Nat → List T → Prop
  | [], [] => True
  | b :: bs, t :: ts => IsX w lo hi ex b t ∧ IsXL w lo hi ex bs ts
  | [], _ :: _ => False
  | _ :: _, [] => False
 end

mutual
theorem IsX.frame {w w' : World} {lo hi lo' hi' : Nat} {ex ex' : List Nat} (hlo : lo' ≤ lo) (hhi : hi ≤ hi') (hex : ∀ x ∈ ex', x ∈ ex ∨ hi ≤ x ∨ x < lo) (hw : ∀ k, lo ≤ k → k < hi → k ∉ ex → w'.heap[k]? = w.heap[k]?) : ∀ (t : T) (b : Nat), IsX w lo hi ex b t → IsX w' lo' hi' ex' b t
  | .mk op name typ n at_ kids, b, h => by
    simp only [IsX] at h ⊢
    obtain ⟨h1, h2, h2', sv, bs, h3, h4, h5, h6⟩ := h
    have no : ∀ k, lo ≤ k → k < hi → k ∉ ex → k ∉ ex' := fun k q1 q2 q3 q4 => by rcases hex k q4 with q | q | q; exact q3 q; omega; omega
    exact ⟨by omega, by omega, no b h1 h2 h2', sv, bs, by rw [hw b h1 h2 h2']; exact h3, ownsRow_frame h4 hlo (fun g hg => hw g (ownsRow_ge h4 hg) (h5 g hg).1 (h5 g hg).2), fun g hg => ⟨by have := (h5 g hg).1; omega, no g (ownsRow_ge h4 hg) (h5 g hg).1 (h5 g hg).2⟩, IsXL.frame hlo hhi hex hw kids bs h6⟩
theorem IsXL.frame {w w' : World} {lo hi lo' hi' : Nat} {ex ex' : List Nat} (hlo : lo' ≤ lo) (hhi : hi ≤ hi') (hex : ∀ x ∈ ex', x ∈ ex ∨ hi ≤ x ∨ x < lo) (hw : ∀ k, lo ≤ k → k < hi → k ∉ ex → w'.heap[k]? = w.heap[k]?) : ∀ (ts : List T) (bs : List Nat), IsXL w lo hi ex bs ts → IsXL w' lo' hi' ex' bs ts
  | [], [], _ => by simp [IsXL]
  | t :: ts, b :: bs, h => by
    simp only [IsXL] at h ⊢
    exact ⟨IsX.frame hlo hhi hex hw t b h.1, IsXL.frame hlo hhi hex hw ts bs h.2⟩
  | [], _ :: _, h => by simp [IsXL] at h
  | _ :: _, [], h => by simp [IsXL] at h
 end

mutual
theorem IsT.isX {w : World} {l u lo hi : Nat} {ex : List Nat} (hlo : lo ≤ l) (hhi : u ≤ hi) (hex : ∀ x ∈ ex, ¬ (l ≤ x ∧ x < u)) : ∀ (t : T) (b : Nat), IsT w l u b t → IsX w lo hi ex b t
  | .mk op name typ n at_ kids, b, h => by
    simp only [IsT, IsX] at h ⊢
    obtain ⟨h1, h2, sv, bs, h3, h4, h5, h6⟩ := h
    exact ⟨by omega, by omega, fun q => hex b q ⟨h1, h2⟩, sv, bs, h3, ownsRow_frame h4 hlo (fun g hg => rfl), fun g hg => ⟨by have := h5 g hg; omega, fun q => hex g q ⟨ownsRow_ge h4 hg, h5 g hg⟩⟩, IsL.isXL hlo hhi hex kids bs h6⟩
theorem IsL.isXL {w : World} {l u lo hi : Nat} {ex : List Nat} (hlo : lo ≤ l) (hhi : u ≤ hi) (hex : ∀ x ∈ ex, ¬ (l ≤ x ∧ x < u)) : ∀ (ts : List T) (bs : List Nat), IsL w l u bs ts → IsXL w lo hi ex bs ts
  | [], [], _ => by simp [IsXL]
  | t :: ts, b :: bs, h => by
    simp only [IsL, IsXL] at h ⊢
    exact ⟨IsT.isX hlo hhi hex t b h.1, IsL.isXL hlo hhi hex ts bs h.2⟩
  | [], _ :: _, h => by simp [IsL] at h
  | _ :: _, [], h => by simp [IsL] at h
 end

mutual
theorem IsX.isT {w : World} {lo hi : Nat} {ex : List Nat} : ∀ (t : T) (b : Nat), IsX w lo hi ex b t → IsT w lo hi b t
  | .mk op name typ n at_ kids, b, h => by
    simp only [IsT, IsX] at h ⊢
    obtain ⟨h1, h2, h2', sv, bs, h3, h4, h5, h6⟩ := h
    exact ⟨by omega, by omega, sv, bs, h3, h4, fun g hg => (h5 g hg).1, IsXL.isL kids bs h6⟩
theorem IsXL.isL {w : World} {lo hi : Nat} {ex : List Nat} : ∀ (ts : List T) (bs : List Nat), IsXL w lo hi ex bs ts → IsL w lo hi bs ts
  | [], [], _ => by simp [IsL]
  | t :: ts, b :: bs, h => by
    simp only [IsL, IsXL] at h ⊢
    exact ⟨IsX.isT t b h.1, IsXL.isL ts bs h.2⟩
  | [], _ :: _, h => by simp [IsXL] at h
  | _ :: _, [], h => by simp [IsXL] at h
 end

theorem IsX.built {w : World} {lo hi : Nat} {ex : List Nat} {bd g : Nat} {op n at_ : Int} {name typ : List UInt8} {bs : List Nat} {ts : List T} (h1 : lo ≤ bd) (h2 : bd < hi) (h3 : bd ∉ ex) (g1 : lo ≤ g) (g2 : g < hi) (g3 : g ∉ ex)
    (hg : w.heap[g]? = some (.cells (bs.map ptrV).toArray 30 (0, 0))) (hl : bs.length ≤ 100000)
    (hc : w.heap[bd]? = some (.cells #[.int .i64 op, .string (B name), .string (B typ), .int .i64 n, .int .i64 at_, .slice (some ⟨g, 0, none⟩) bs.length bs.length] 108 (0, 0)))
    (hk : IsXL w lo hi ex bs ts) : IsX w lo hi ex bd (.mk op name typ n at_ ts) := by
  have gl : g < w.heap.size := (Array.getElem?_eq_some_iff.1 hg).1
  simp only [IsX]
  refine ⟨h1, h2, h3, _, bs, hc, ⟨by simp, .inr ⟨g, bs.length, _, rfl, g1, hg, Nat.le_refl _, by unfold maxLen; omega, by simp, by simp; exact List.take_of_length_le (by simp)⟩⟩, ?_, hk⟩
  intro k hk
  simp [Value.ownBlock] at hk
  subst hk
  exact ⟨g2, g3⟩

theorem IsX.leaf {w : World} {lo hi : Nat} {ex : List Nat} {bd : Nat} {op n at_ : Int} {name typ : List UInt8} (h1 : lo ≤ bd) (h2 : bd < hi) (h3 : bd ∉ ex)
    (hc : w.heap[bd]? = some (.cells #[.int .i64 op, .string (B name), .string (B typ), .int .i64 n, .int .i64 at_, .slice none 0 0] 108 (0, 0))) : IsX w lo hi ex bd (.mk op name typ n at_ []) := by
  simp only [IsX]
  exact ⟨h1, h2, h3, _, [], hc, World.ownsRow_nil _ _ _ _, by simp [Value.ownBlock], by simp [IsXL]⟩

/-- a node's block alone is set -/
theorem IsX.cells {w : World} {lo hi b : Nat} {ex : List Nat} {t : T} (h : IsX w lo hi ex b t) : ∃ sv : Value, w.heap[b]? = some (.cells #[.int .i64 t.op, .string (B t.name), .string (B t.typ), .int .i64 t.n, .int .i64 t.at_, sv] 108 (0, 0)) := by
  cases t with
  | mk op name typ n at_ kids =>
    simp only [IsX] at h
    obtain ⟨-, -, -, sv, bs, h3, -⟩ := h
    exact ⟨sv, h3⟩
theorem IsT.cells {w : World} {lo hi b : Nat} {t : T} (h : IsT w lo hi b t) : lo ≤ b ∧ b < hi ∧ ∃ (sv : Value) (bs : List Nat), w.heap[b]? = some (.cells #[.int .i64 t.op, .string (B t.name), .string (B t.typ), .int .i64 t.n, .int .i64 t.at_, sv] 108 (0, 0)) ∧
    w.ownsRow lo 30 1 sv bs.length (bs.map ptrV) ∧ (∀ g, sv.ownBlock = some g → g < hi) ∧ IsL w lo hi bs t.kids := by
  cases t with
  | mk op name typ n at_ kids =>
    simp only [IsT] at h
    exact h

end Go.Proofs.YtbplaekabeggkaaGreatDoor

namespace Go.Proofs.YtbplaekabeggkaaGreatDoor
open Go.RowKit

set_option maxRecDepth 100000 in
set_option maxHeartbeats 1000000 in
theorem postfix_step {k : Nat} (hP : CPrimary k) : CPostfix (k + 1) := by
  intro toks en br lim pos dep w r hR hd hr
  have hlim := hR.limle
  have hbr := hR.lt
  rw [pPostfix] at hr
  cases hX : pPrimary k toks en dep pos with
  | none => rw [hX] at hr; cases hr
  | some x =>
  rw [hX] at hr
  have HE := fun w1 (h1 : Rdr toks en br lim pos dep w1) => hP toks en br lim pos dep w1 x h1 hd hX
  clear hX hP
  cases x with
  | stop a er =>
    cases hr
    have : ¬ w.heap.size = br := sza
    have : ¬ br = w.heap.size := sza
    go_enter Tryz.func222, Tryz.ntmps222
    go_wp2_with fail
    refine (HE _ (rda)).mono ?_
    rintro e w1 ⟨rfl, hk1⟩
    have z1 := hk1.size
    try simp at z1
    go_wp2
    exact ⟨rfl, rfl, kpa⟩
  | ok t p =>
  dsimp only at hr
  have : ¬ w.heap.size = br := sza
  have : ¬ br = w.heap.size := sza
  go_enter Tryz.func222, Tryz.ntmps222
  go_wp2_with fail
  refine (HE _ (rda)).mono ?_
  rintro e w1 ⟨b1, rfl, hT1, hr1, hk1⟩
  have z1 := hk1.size
  try simp at z1
  have lc1_0 := fun o => hk1.cell (w.heap.size) o sza sza
  have lf1_0 := fun o => hk1.frozen (w.heap.size) o sza sza
  have ll1_0 : w.heap.size < w1.heap.size := sza
  try simp at lc1_0
  try simp at lf1_0
  have lb1_0 := hk1.block (w.heap.size) sza sza
  clear HE
  have HA := Lib.hid hr
  clear hr
  go_wp2_with fail
  have L0 : Loc (w1.alloc (.cells #[.pointer none] 30)) w.heap.size (.pointer none) 30 := loca
  go_loopg [] k (fun k wr => ∃ p t b, Go.Aside (pDots k toks en t p = some r) ∧ Rdr toks en br lim p dep wr ∧ Loc wr w.heap.size (.pointer none) 30 ∧ Loc wr w1.heap.size (ptrV b) 30 ∧
    IsX wr w.heap.size wr.heap.size [w.heap.size, w1.heap.size] b t ∧ Kp w.heap.size [br] w wr)
  case atStart =>
    refine ⟨_, _, b1, HA.out, rda, loca, loca, ?_, kpa⟩
    refine IsX.frame (Nat.le_refl _) (by simp) (ex := [w.heap.size, w1.heap.size]) (by simp) (fun k _ hk hx => ?_) _ _ (IsT.isX (lo := w.heap.size) (hi := w1.heap.size) (by simp) (Nat.le_refl _) (by simp; omega) _ _ hT1)
    (repeat' (first | rfl | (rw [hS_ne (by first | omega | (simp; omega))]) | (rw [hA_old (by first | omega | (simp; omega))]) | (rw [hD]) | (rw [hDN])))
  case round =>
    obtain ⟨p, t, b, A, rR, rL0, rL1, rX, rK⟩ := hrel
    have hA := A.out
    have rl0 := rL0.lt
    have rl1 := rL1.lt
    have rz := rK.size
    have rc1 := rL1.cell
    have rc0 := rL0.cell
    have rf0 := rL0.frozen
    generalize w1.heap.size = nv at *
    clear A HA L0 hr1 hk1 hT1 lc1_0 lf1_0 lb1_0
    cases gk with
    | zero => simp [pDots] at hA
    | succ gk =>
    rw [pDots] at hA
    by_cases c1 : isTok (tokAt toks en p) kDot = true
    rotate_left
    · rw [if_neg c1] at hA
      rw [Bool.not_eq_true] at c1
      cases hA
      have : ¬ w.heap.size = br := sza
      have : ¬ br = w.heap.size := sza
      have : ¬ nv = w.heap.size := sza
      have : ¬ w.heap.size = nv := sza
      have : ¬ nv = br := sza
      have : ¬ br = nv := sza
      go_wp2_with fail
      refine (accept_no rR ⟨#[46]⟩ (by rw [mk_toList]; exact c1)).mono ?_
      rintro e w5 ⟨rfl, hk5⟩
      have z5 := hk5.size
      try simp at z5
      have lc5_0 := fun o => hk5.cell (w.heap.size) o sza sza
      have lf5_0 := fun o => hk5.frozen (w.heap.size) o sza sza
      have ll5_0 : w.heap.size < w5.heap.size := sza
      try simp at lc5_0
      try simp at lf5_0
      have lb5_0 := hk5.block (w.heap.size) sza sza
      have lc5_1 := fun o => hk5.cell (nv) o sza sza
      have lf5_1 := fun o => hk5.frozen (nv) o sza sza
      have ll5_1 : nv < w5.heap.size := sza
      try simp at lc5_1
      try simp at lf5_1
      have lb5_1 := hk5.block (nv) sza sza
      have hr5 : Rdr toks en br lim p dep w5 := rda
      go_wp2
      refine bodyPost_ret (v := .agg #[ptrV b]) (by simp [results, Tryz.results222, go_sem, *]) rfl ?_
      refine ⟨b, rfl, ?_, rda, kpa⟩
      refine IsX.isT _ _ (IsX.frame (Nat.le_refl _) (by simp; omega) (ex' := []) (by simp) (fun k hk hk' hx => ?_) _ _ rX)
      simp at hx
      rw [hS_ne (by omega), hk5.block k (by omega) (by simp)]
    · rw [if_pos c1] at hA
      by_cases c2 : (tokAt toks en (p + 1)).kind = 1
      rotate_left
      · rw [if_neg c2] at hA
        cases hA
        have : ¬ w.heap.size = br := sza
        have : ¬ br = w.heap.size := sza
        have : ¬ nv = w.heap.size := sza
        have : ¬ w.heap.size = nv := sza
        have : ¬ nv = br := sza
        have : ¬ br = nv := sza
        go_wp2_with fail
        refine (accept_yes rR ⟨#[46]⟩ (by rw [mk_toList]; exact c1)).mono ?_
        rintro e w5 ⟨rfl, hr5, hk5⟩
        have z5 := hk5.size
        try simp at z5
        have lc5_0 := fun o => hk5.cell (w.heap.size) o sza sza
        have lf5_0 := fun o => hk5.frozen (w.heap.size) o sza sza
        have ll5_0 : w.heap.size < w5.heap.size := sza
        try simp at lc5_0
        try simp at lf5_0
        have lb5_0 := hk5.block (w.heap.size) sza sza
        have lc5_1 := fun o => hk5.cell (nv) o sza sza
        have lf5_1 := fun o => hk5.frozen (nv) o sza sza
        have ll5_1 : nv < w5.heap.size := sza
        try simp at lc5_1
        try simp at lf5_1
        have lb5_1 := hk5.block (nv) sza sza
        have M1 : Loc w5 nv (ptrV b) 30 := loca
        have m1 := M1.cell
        have m1l := M1.lt
        go_wp2_with fail
        refine wp_region_U (S := (fun W => W.cell? ⟨nv, 0, none⟩ = some (ptrV b))) (F := [5]) (by kernel_rfl) (by (first | (simp; done) | (simp [World.cell?_setCell_other, World.cell?_alloc_lt, *]; done))) (fun hHeld => ?_)
        refine tkU 0 (v := ?_) rfl (by kernel_rfl) (fun _ _ _ h => h) (Or.inl ⟨by rfl, ?_⟩) (by assumption) ?_
        rotate_left
        · intro w hSw; (try dsimp only at hSw); go_simp; try with_reducible rfl
        try simp only [Act.put, pz]
        refine tkU 2 (v := ?_) rfl (by kernel_rfl) (fun _ _ _ h => h) (Or.inl ⟨by rfl, ?_⟩) (by assumption) ?_
        rotate_left
        · intro w hSw; (try dsimp only at hSw); go_simp; try with_reducible rfl
        try simp only [Act.put, pz]
        refine wpAnyU_rs (rs := [1, 3]) (by kernel_rfl) (by simp) (AllU.cons rfl rfl (fun K1 hK => ?_) (AllU.cons rfl rfl (fun K1 hK => ?_) AllU.nil))
        · go_simp
          refine (word_no (toks := toks) (en := en) (lim := lim) (dep := dep) (rda) c2).mono ?_
          clear hK
          rintro e w6 ⟨rfl, hk6⟩
          have z6 := hk6.size
          simp at z6
          go_wp2
          exact ⟨rfl, rfl, kpa⟩
        · go_simp
          try dsimp only
          try simp only [sz3]
          refine hK.out _ _ ?_ ?_
          · intro _; exact Loc.cell (t := 30) (loca)
          clear hK K1
          try simp only [Act.put, pz]
          refine wpAnyU_one (i := 1) (by kernel_rfl) rfl rfl (fun K1 hK => ?_)
          go_simp
          refine (word_no (toks := toks) (en := en) (lim := lim) (dep := dep) (rda) c2).mono ?_
          clear hK
          rintro e w6 ⟨rfl, hk6⟩
          have z6 := hk6.size
          simp at z6
          go_wp2
          exact ⟨rfl, rfl, kpa⟩
      · rw [if_pos c2] at hA
        have : ¬ w.heap.size = br := sza
        have : ¬ br = w.heap.size := sza
        have : ¬ nv = w.heap.size := sza
        have : ¬ w.heap.size = nv := sza
        have : ¬ nv = br := sza
        have : ¬ br = nv := sza
        go_wp2_with fail
        refine (accept_yes rR ⟨#[46]⟩ (by rw [mk_toList]; exact c1)).mono ?_
        rintro e w5 ⟨rfl, hr5, hk5⟩
        have z5 := hk5.size
        try simp at z5
        have lc5_0 := fun o => hk5.cell (w.heap.size) o sza sza
        have lf5_0 := fun o => hk5.frozen (w.heap.size) o sza sza
        have ll5_0 : w.heap.size < w5.heap.size := sza
        try simp at lc5_0
        try simp at lf5_0
        have lb5_0 := hk5.block (w.heap.size) sza sza
        have lc5_1 := fun o => hk5.cell (nv) o sza sza
        have lf5_1 := fun o => hk5.frozen (nv) o sza sza
        have ll5_1 : nv < w5.heap.size := sza
        try simp at lc5_1
        try simp at lf5_1
        have lb5_1 := hk5.block (nv) sza sza
        have M0 : Loc w5 w.heap.size (.pointer none) 30 := loca
        have M1 : Loc w5 nv (ptrV b) 30 := loca
        have MX : IsX w5 w.heap.size w5.heap.size [w.heap.size, nv] b t := IsX.frame (Nat.le_refl _) (by omega) (by simp) (fun k hk hk' hx => hk5.block k (by omega) (by simp; omega)) _ _ rX
        have K5 : Kp w.heap.size [br] w w5 := kpa
        have m1 := M1.cell
        have m1l := M1.lt
        have m0l := M0.lt
        clear rX rL0 rL1 rK rR
        go_wp2_with fail
        refine wp_region_U (S := (fun W => W.cell? ⟨nv, 0, none⟩ = some (ptrV b))) (F := [5]) (by kernel_rfl) (by (first | (simp; done) | (simp [World.cell?_setCell_other, World.cell?_alloc_lt, *]; done))) (fun hHeld => ?_)
        refine tkU 0 (v := ?_) rfl (by kernel_rfl) (fun _ _ _ h => h) (Or.inl ⟨by rfl, ?_⟩) (by assumption) ?_
        rotate_left
        · intro w hSw; (try dsimp only at hSw); go_simp; try with_reducible rfl
        try simp only [Act.put, pz]
        refine tkU 2 (v := ?_) rfl (by kernel_rfl) (fun _ _ _ h => h) (Or.inl ⟨by rfl, ?_⟩) (by assumption) ?_
        rotate_left
        · intro w hSw; (try dsimp only at hSw); go_simp; try with_reducible rfl
        try simp only [Act.put, pz]
        refine wpAnyU_rs (rs := [1, 3]) (by kernel_rfl) (by simp) (AllU.cons rfl rfl (fun K1 hK => ?_) (AllU.cons rfl rfl (fun K1 hK => ?_) AllU.nil))
        · go_simp
          refine (word_yes (toks := toks) (en := en) (lim := lim) (dep := dep) (rda) c2).mono ?_
          rintro e w6 ⟨rfl, hr6, hk6⟩
          have z6 := hk6.size
          simp at z6
          try dsimp only
          try simp only [sz3]
          refine hK.out _ _ ?_ ?_
          · intro _; exact Loc.cell (t := 30) (loca)
          clear hK K1
          try simp only [Act.put, pz]
          refine wpAnyU_rs (rs := [3]) (by kernel_rfl) (by simp) (AllU.cons rfl rfl (fun K1 hK => ?_) AllU.nil)
          go_simp
          try dsimp only
          try simp only [sz3]
          refine hK.out _ _ ?_ ?_
          · intro _; exact Loc.cell (t := 30) (loca)
          clear hK K1
          try simp only [Act.put, pz]
          refine wpAnyU_rs (rs := [4]) (by kernel_rfl) (by simp) (AllU.cons rfl rfl (fun K1 hK => ?_) AllU.nil)
          go_simp
          refine (node_c _ _ _ _ _ _ _ _).mono ?_
          rintro e w7 ⟨rfl, s7, b7, hk7⟩
          have z7 := hk7.size
          try simp at s7
          try simp at z7
          try simp at b7
          have B7 := Blk.mk b7
          clear b7
          try dsimp only
          try simp only [sz3]
          refine hK.out _ _ ?_ ?_
          · intro _; exact Loc.cell (t := 30) (loca)
          clear hK K1
          try simp only [Act.put, pz]
          refine wpAnyU_rs (rs := [5]) (by kernel_rfl) (by simp) (AllU.cons rfl rfl (fun K1 hK => ?_) AllU.nil)
          refine st_node 3 12 rfl _ _ (ptrV b) rfl rfl (loca) ?_
          try dsimp only
          try simp only [sz3]
          refine hK.out _ _ ?_ ?_
          · intro hF; exact absurd hF (by decide)
          clear hK K1
          try simp only [Act.put, pz]
          refine wpAnyU_done (by kernel_rfl) ?_ _
          go_wp2
          have K57 : Kp w5.heap.size [br] w5 w7 := kpa
          have B8 := fun u => B7.other (c := nv) 0 u (by omega)
          go_roundg gk
          case measure => omega
          case rel =>
            refine ⟨_, _, _, hA, rda, loca, Loc.set (v := ptrV b) (loca) _, ?_, kpa⟩
            refine IsX.built (typ := []) (bs := [b]) (ts := [t]) ?_ ?_ ?_ ?_ ?_ ?_ ?_ (by simp) (B8 _).blk ?_
            · omega
            · simp; omega
            · simp; omega
            · omega
            · simp; omega
            · simp; omega
            · clear K57 K5; exact Blk.blk (t := 30) (bka)
            · refine ⟨IsX.frame (Nat.le_refl _) (by simp; omega) (by simp) (fun k hk hk' hx => ?_) _ _ MX, trivial⟩
              simp at hx
              rw [hS_ne (by omega), K57.block k (by omega) (by simp; omega)]
        · go_simp
          try dsimp only
          try simp only [sz3]
          refine hK.out _ _ ?_ ?_
          · intro _; exact Loc.cell (t := 30) (loca)
          clear hK K1
          try simp only [Act.put, pz]
          refine wpAnyU_rs (rs := [1]) (by kernel_rfl) (by simp) (AllU.cons rfl rfl (fun K1 hK => ?_) AllU.nil)
          go_simp
          refine (word_yes (toks := toks) (en := en) (lim := lim) (dep := dep) (rda) c2).mono ?_
          rintro e w6 ⟨rfl, hr6, hk6⟩
          have z6 := hk6.size
          simp at z6
          try dsimp only
          try simp only [sz3]
          refine hK.out _ _ ?_ ?_
          · intro _; exact Loc.cell (t := 30) (loca)
          clear hK K1
          try simp only [Act.put, pz]
          refine wpAnyU_rs (rs := [4]) (by kernel_rfl) (by simp) (AllU.cons rfl rfl (fun K1 hK => ?_) AllU.nil)
          go_simp
          refine (node_c _ _ _ _ _ _ _ _).mono ?_
          rintro e w7 ⟨rfl, s7, b7, hk7⟩
          have z7 := hk7.size
          try simp at s7
          try simp at z7
          try simp at b7
          have B7 := Blk.mk b7
          clear b7
          try dsimp only
          try simp only [sz3]
          refine hK.out _ _ ?_ ?_
          · intro _; exact Loc.cell (t := 30) (loca)
          clear hK K1
          try simp only [Act.put, pz]
          refine wpAnyU_rs (rs := [5]) (by kernel_rfl) (by simp) (AllU.cons rfl rfl (fun K1 hK => ?_) AllU.nil)
          refine st_node 3 12 rfl _ _ (ptrV b) rfl rfl (loca) ?_
          try dsimp only
          try simp only [sz3]
          refine hK.out _ _ ?_ ?_
          · intro hF; exact absurd hF (by decide)
          clear hK K1
          try simp only [Act.put, pz]
          refine wpAnyU_done (by kernel_rfl) ?_ _
          go_wp2
          have K57 : Kp w5.heap.size [br] w5 w7 := kpa
          have B8 := fun u => B7.other (c := nv) 0 u (by omega)
          go_roundg gk
          case measure => omega
          case rel =>
            refine ⟨_, _, _, hA, rda, loca, Loc.set (v := ptrV b) (loca) _, ?_, kpa⟩
            refine IsX.built (typ := []) (bs := [b]) (ts := [t]) ?_ ?_ ?_ ?_ ?_ ?_ ?_ (by simp) (B8 _).blk ?_
            · omega
            · simp; omega
            · simp; omega
            · omega
            · simp; omega
            · simp; omega
            · clear K57 K5; exact Blk.blk (t := 30) (bka)
            · refine ⟨IsX.frame (Nat.le_refl _) (by simp; omega) (by simp) (fun k hk hk' hx => ?_) _ _ MX, trivial⟩
              simp at hx
              rw [hS_ne (by omega), K57.block k (by omega) (by simp; omega)]

end Go.Proofs.YtbplaekabeggkaaGreatDoor

namespace Go.Proofs.YtbplaekabeggkaaGreatDoor

/-- the parser goes ahead -/
structure AdvK (k : Nat) : Prop where
  expr : ∀ toks en dep least pos t p, pExpr k toks en dep least pos = some (.ok t p) → pos < p
  loop : ∀ toks en dep least l pos t p, pLoop k toks en dep least l pos = some (.ok t p) → pos ≤ p
  unary : ∀ toks en dep pos t p, pUnary k toks en dep pos = some (.ok t p) → pos < p
  postfix_ : ∀ toks en dep pos t p, pPostfix k toks en dep pos = some (.ok t p) → pos < p
  dots : ∀ toks en l pos t p, pDots k toks en l pos = some (.ok t p) → pos ≤ p
  primary : ∀ toks en dep pos t p, pPrimary k toks en dep pos = some (.ok t p) → pos < p
  named : ∀ toks en dep pos t p, pNamed k toks en dep pos = some (.ok t p) → pos < p
  args : ∀ toks en dep acc pos t p, pArgs k toks en dep acc pos = some (.ok t p) → pos < p
  brackets : ∀ toks en dep pos t p, pBrackets k toks en dep pos = some (.ok t p) → pos < p

theorem pKey_lt {toks : List Tok} {en : Int} {pos p : Nat} {t : T} (h : pKey toks en pos = .ok t p) : pos < p := by
  unfold pKey at h
  dsimp only at h
  by_cases c1 : (tokAt toks en pos).text = kTrue
  · rw [if_pos c1] at h; cases h; omega
  rw [if_neg c1] at h
  by_cases c2 : (tokAt toks en pos).text = kFalse
  · rw [if_pos c2] at h; cases h; omega
  rw [if_neg c2] at h
  by_cases c3 : (tokAt toks en pos).text = kNew
  · rw [if_pos c3] at h
    split at h
    · split at h
      · split at h
        · cases h; omega
        · cases h
      · cases h
    · cases h
  rw [if_neg c3] at h
  split at h
  · split at h
    · split at h
      · cases h; omega
      · cases h
    · cases h
  · cases h; omega

theorem advK : ∀ k, AdvK k := by
  intro k
  induction k with
  | zero => constructor <;> (intros; rename_i h; first | cases h | (simp [pExpr, pLoop, pUnary, pPostfix, pDots, pPrimary, pNamed, pArgs, pBrackets] at h))
  | succ k ih =>
    constructor
    · intro toks en dep least pos t p h
      rw [pExpr] at h
      split at h
      · rename_i h1
        have := ih.unary _ _ _ _ _ _ h1
        have := ih.loop _ _ _ _ _ _ _ _ h
        omega
      · rename_i h1; exact absurd h (h1 _ _)
    · intro toks en dep least l pos t p h
      rw [pLoop] at h
      try dsimp only at h
      split at h
      · cases h; omega
      split at h
      · rename_i h1
        have := ih.expr _ _ _ _ _ _ _ h1
        have := ih.loop _ _ _ _ _ _ _ _ h
        omega
      · rename_i h1; exact absurd h (h1 _ _)
    · intro toks en dep pos t p h
      rw [pUnary] at h
      split at h
      · split at h
        · cases h
        split at h
        · rename_i h1
          have := ih.unary _ _ _ _ _ _ h1
          cases h; omega
        · rename_i h1; exact absurd h (h1 _ _)
      · exact ih.postfix_ _ _ _ _ _ _ h
    · intro toks en dep pos t p h
      rw [pPostfix] at h
      split at h
      · rename_i h1
        have := ih.primary _ _ _ _ _ _ h1
        have := ih.dots _ _ _ _ _ _ h
        omega
      · rename_i h1; exact absurd h (h1 _ _)
    · intro toks en l pos t p h
      rw [pDots] at h
      split at h
      · split at h
        · have := ih.dots _ _ _ _ _ _ h
          omega
        · cases h
      · cases h; omega
    · intro toks en dep pos t p h
      rw [pPrimary] at h
      try dsimp only at h
      split at h
      · cases h; omega
      split at h
      · exact ih.named _ _ _ _ _ _ h
      split at h
      · exact ih.brackets _ _ _ _ _ _ h
      split at h
      · exact pKey_lt (Option.some.inj h)
      · cases h
    · intro toks en dep pos t p h
      rw [pNamed] at h
      try dsimp only at h
      split at h
      · split at h
        · cases h
        split at h
        · rename_i h1
          have := ih.args _ _ _ _ _ _ _ h1
          cases h; omega
        · cases h
        · cases h
      · cases h; omega
    · intro toks en dep acc pos t p h
      rw [pArgs] at h
      split at h
      · cases h; omega
      split at h
      · rename_i h1
        have := ih.expr _ _ _ _ _ _ _ h1
        split at h
        · have := ih.args _ _ _ _ _ _ _ h
          omega
        split at h
        · split at h
          · cases h
          · have := ih.args _ _ _ _ _ _ _ h
            omega
        · cases h
      · cases h
      · cases h
    · intro toks en dep pos t p h
      rw [pBrackets] at h
      split at h
      · split at h
        · cases h
        split at h
        · rename_i h1
          have := ih.expr _ _ _ _ _ _ _ h1
          split at h
          · cases h; omega
          · cases h
        · rename_i h1; exact absurd h (h1 _ _)
      · cases h

end Go.Proofs.YtbplaekabeggkaaGreatDoor

namespace Go.Proofs.YtbplaekabeggkaaGreatDoor
open Go.RowKit

set_option maxRecDepth 100000 in
set_option maxHeartbeats 1000000 in
theorem call1_c {toks : List Tok} {en : Int} {br lim pos dep cb ct k : Nat} {w : World} (hE : ∀ j, j ≤ k → CExpr j) (hR : Rdr toks en br lim pos dep w) (hd : dep ≤ 40) (hp : pos < toks.length)
    (MC : Loc w cb (ptrV br) 73) (hcb : lim ≤ cb) (tk : Tok) (MT : Blk w ct #[.int .i64 tk.kind, .string (B tk.text), .int .i64 tk.at_] 35) (hct : lim ≤ ct) (hcc : ct ≠ cb) (htl : tk.text.length ≤ 100000) (r : Res T)
    (hq : (match pArgs k toks en dep [] (pos + 1) with
      | some (.ok ts p) => some (.ok (.mk 21 tk.text [] 0 tk.at_ ts) p)
      | some (.stop a e) => some (.stop a e)
      | none => none) = some r) :
    Calls Tryz.prog 240 #[.pointer (some ⟨cb, 0, none⟩), .pointer (some ⟨ct, 0, none⟩)] w (PostN toks en br lim dep w r) := by
  have hlim := hR.limle
  have hbr := hR.lt
  have mlc := MC.lt
  have mc := MC.cell
  have mlt := MT.lt
  have mt0 := MT.cell 0
  have mt1 := MT.cell 1
  have mt2 := MT.cell 2
  simp at mt0 mt1 mt2
  have hbc : br ≠ cb := by omega
  cases hX : pArgs k toks en dep [] (pos + 1) with
  | none => rw [hX] at hq; cases hq
  | some x =>
  rw [hX] at hq
  have HM := Lib.hid hX
  clear hX
  have : ¬ cb = br := sza
  have : ¬ br = cb := sza
  have : ¬ ct = cb := sza
  have : ¬ cb = ct := sza
  have : ¬ ct = br := sza
  have : ¬ br = ct := sza
  have : ¬ w.heap.size = cb := sza
  have : ¬ cb = w.heap.size := sza
  have : ¬ w.heap.size = ct := sza
  have : ¬ ct = w.heap.size := sza
  have : ¬ w.heap.size = br := sza
  have : ¬ br = w.heap.size := sza
  go_enter Tryz.func240, Tryz.ntmps240
  go_wp2_with fail
  refine (take_c (pos := pos) (dep := dep) (toks := toks) (en := en) (lim := lim) (rda) hp).mono ?_
  rintro e w1 ⟨rfl, hr1, hk1⟩
  have z1 := hk1.size
  try simp at z1
  have lc1_0 := fun o => hk1.cell (cb) o sza sza
  have lf1_0 := fun o => hk1.frozen (cb) o sza sza
  have ll1_0 : cb < w1.heap.size := sza
  try simp at lc1_0
  try simp at lf1_0
  have lb1_0 := hk1.block (cb) sza sza
  have lc1_1 := fun o => hk1.cell (ct) o sza sza
  have lf1_1 := fun o => hk1.frozen (ct) o sza sza
  have ll1_1 : ct < w1.heap.size := sza
  try simp at lc1_1
  try simp at lf1_1
  have lb1_1 := hk1.block (ct) sza sza
  have lc1_2 := fun o => hk1.cell (w.heap.size) o sza sza
  have lf1_2 := fun o => hk1.frozen (w.heap.size) o sza sza
  have ll1_2 : w.heap.size < w1.heap.size := sza
  try simp at lc1_2
  try simp at lf1_2
  have lb1_2 := hk1.block (w.heap.size) sza sza
  go_wp2_with fail
  refine (node_c _ _ _ _ _ _ _ _).mono ?_
  rintro e w2 ⟨rfl, s2, b2, hk2⟩
  have S2 : w1.heap.size + 3 ≤ w2.heap.size := by omega
  clear s2
  have z2 := hk2.size
  try simp at z2
  have lc2_0 := fun o => hk2.cell (cb) o sza sza
  have lf2_0 := fun o => hk2.frozen (cb) o sza sza
  have ll2_0 : cb < w2.heap.size := sza
  try simp at lc2_0
  try simp at lf2_0
  have lb2_0 := hk2.block (cb) sza sza
  have lc2_1 := fun o => hk2.cell (ct) o sza sza
  have lf2_1 := fun o => hk2.frozen (ct) o sza sza
  have ll2_1 : ct < w2.heap.size := sza
  try simp at lc2_1
  try simp at lf2_1
  have lb2_1 := hk2.block (ct) sza sza
  have lc2_2 := fun o => hk2.cell (w.heap.size) o sza sza
  have lf2_2 := fun o => hk2.frozen (w.heap.size) o sza sza
  have ll2_2 : w.heap.size < w2.heap.size := sza
  try simp at lc2_2
  try simp at lf2_2
  have lb2_2 := hk2.block (w.heap.size) sza sza
  go_wp2_with fail
  have hr2 : Rdr toks en br lim (pos + 1) dep (w2.alloc (.cells #[ptrV (w1.heap.size + 2)] 30)) := rda
  have L0 : Loc (w2.alloc (.cells #[ptrV (w1.heap.size + 2)] 30)) w.heap.size (.pointer none) 30 := loca
  have L1 : Loc (w2.alloc (.cells #[ptrV (w1.heap.size + 2)] 30)) w2.heap.size (ptrV (w1.heap.size + 2)) 30 := loca
  have LC : Loc (w2.alloc (.cells #[ptrV (w1.heap.size + 2)] 30)) cb (ptrV br) 73 := loca
  have N2 : NodeB w2 w.heap.size [w.heap.size, w2.heap.size] (w1.heap.size + 2) 21 (B tk.text) ⟨#[]⟩ 0 tk.at_ (.slice none 0 0) [] [] := NodeB.leaf (by omega) (by omega) (by simp; omega) b2
  have N4 : NodeB (w2.alloc (.cells #[ptrV (w1.heap.size + 2)] 30)) w.heap.size [w.heap.size, w2.heap.size] (w1.heap.size + 2) 21 (B tk.text) ⟨#[]⟩ 0 tk.at_ (.slice none 0 0) [] [] := nba
  have K4 : Kp w.heap.size [br] w (w2.alloc (.cells #[ptrV (w1.heap.size + 2)] 30)) := kpa
  generalize hWW : (w2.alloc (.cells #[ptrV (w1.heap.size + 2)] 30)) = W2 at *
  clear hWW
  have hdec : w2.heap.size < W2.heap.size := L1.lt
  have hnn : w.heap.size < w2.heap.size := by omega
  generalize w2.heap.size = nv at *
  generalize w1.heap.size + 2 = bd at *
  clear lc1_0 lf1_0 lb1_0 lc1_1 lf1_1 lb1_1 lc1_2 lf1_2 lb1_2 lc2_0 lf2_0 lb2_0 lc2_1 lf2_1 lb2_1 lc2_2 lf2_2 lb2_2 N2 hk1 hk2 hr1 mc mt0 mt1 mt2 b2
  go_loopg [] k (fun j wr => ∃ p acc sv bs, Go.Aside (j ≤ k ∧ pArgs j toks en dep acc p = some x ∧ acc.length ≤ p) ∧ Rdr toks en br lim p dep wr ∧ Loc wr w.heap.size (.pointer none) 30 ∧ Loc wr nv (ptrV bd) 30 ∧ Loc wr cb (ptrV br) 73 ∧
    NodeB wr w.heap.size [w.heap.size, nv] bd 21 (B tk.text) ⟨#[]⟩ 0 tk.at_ sv bs acc ∧ Kp w.heap.size [br] w wr)
  case atStart => exact ⟨_, _, _, _, ⟨Nat.le_refl _, HM.out, by simp⟩, hr2, L0, L1, LC, N4, K4⟩
  case round =>
    obtain ⟨p, acc, sv, bs, A, rR, rL0, rL1, rLC, rN, rK⟩ := hrel
    obtain ⟨hjk, hA, hAl⟩ := A.out
    have rl0 := rL0.lt
    have rl1 := rL1.lt
    have rlc := rLC.lt
    have rc := rLC.cell
    have rz := rK.size
    have rle := rN.lo_le
    clear A HM L0 L1 LC N4 K4 hr2
    cases gk with
    | zero => simp [pArgs] at hA
    | succ gk =>
    rw [pArgs] at hA
    by_cases c1 : isTok (tokAt toks en p) kRpar = true
    · rw [if_pos c1] at hA
      cases hA
      cases hq
      have hp1 := isTok_lt c1
      have : ¬ cb = br := sza
      have : ¬ br = cb := sza
      go_wp2_with fail
      refine ((is_c (pos := p) (dep := dep) (toks := toks) (en := en) (lim := lim) (rda) ⟨#[41]⟩).mono ?_)
      rw [mk_toList, show isTok _ (#[41] : Array UInt8).toList = true from c1]
      rintro e w5 ⟨rfl, hk5⟩
      have z5 := hk5.size
      try simp at z5
      have lc5_0 := fun o => hk5.cell (cb) o sza sza
      have lf5_0 := fun o => hk5.frozen (cb) o sza sza
      have ll5_0 : cb < w5.heap.size := sza
      try simp at lc5_0
      try simp at lf5_0
      have lb5_0 := hk5.block (cb) sza sza
      have hr5 : Rdr toks en br lim p dep w5 := rda
      go_wp2_with fail
      refine (take_c (pos := p) (dep := dep) (toks := toks) (en := en) (lim := lim) (rda) hp1).mono ?_
      rintro e w6 ⟨rfl, hr6, hk6⟩
      have z6 := hk6.size
      try simp at z6
      have lc6_0 := fun o => hk6.cell (cb) o sza sza
      have lf6_0 := fun o => hk6.frozen (cb) o sza sza
      have ll6_0 : cb < w6.heap.size := sza
      try simp at lc6_0
      try simp at lf6_0
      have lb6_0 := hk6.block (cb) sza sza
      have M0 : Loc w6 w.heap.size (.pointer none) 30 := loca
      have M1 : Loc w6 nv (ptrV bd) 30 := loca
      have MN : NodeB w6 w.heap.size [w.heap.size, nv] bd 21 (B tk.text) ⟨#[]⟩ 0 tk.at_ sv bs acc := nba
      have m0 := M0.cell
      have m1 := M0.frozen
      have m2 := M1.cell
      go_wp2
      refine bodyPost_ret (v := .agg #[ptrV bd]) (by simp [results, Tryz.results240, go_sem, *]) rfl ?_
      refine ⟨bd, rfl, ?_, rda, kpa⟩
      have MF := MN.setEx (b := w.heap.size) 0 (ptrV bd) (by left; simp)
      exact MF.isT rfl rfl
    · rw [if_neg c1] at hA
      rw [Bool.not_eq_true] at c1
      cases hX : pExpr gk toks en dep 1 p with
      | none => rw [hX] at hA; cases hA
      | some y =>
      rw [hX] at hA
      have HE := fun w1 (h1 : Rdr toks en br lim p dep w1) => hE gk (by omega) toks en br lim p dep 1 w1 y h1 hd (by omega) hX
      have hlt := fun t p' (e : y = .ok t p') => (advK gk).expr _ _ _ _ _ t p' (e ▸ hX)
      clear hX
      cases y with
      | stop a er =>
        cases hA
        cases hq
        have : ¬ cb = br := sza
        have : ¬ br = cb := sza
        go_wp2_with fail
        refine ((is_c (pos := p) (dep := dep) (toks := toks) (en := en) (lim := lim) (rda) ⟨#[41]⟩).mono ?_)
        rw [mk_toList, show isTok _ (#[41] : Array UInt8).toList = false from c1]
        rintro e w5 ⟨rfl, hk5⟩
        have z5 := hk5.size
        try simp at z5
        have lc5_0 := fun o => hk5.cell (cb) o sza sza
        have lf5_0 := fun o => hk5.frozen (cb) o sza sza
        have ll5_0 : cb < w5.heap.size := sza
        try simp at lc5_0
        try simp at lf5_0
        have lb5_0 := hk5.block (cb) sza sza
        have hr5 : Rdr toks en br lim p dep w5 := rda
        have M0 : Loc w5 w.heap.size (.pointer none) 30 := loca
        have M1 : Loc w5 nv (ptrV bd) 30 := loca
        have MC : Loc w5 cb (ptrV br) 73 := loca
        have MN : NodeB w5 w.heap.size [w.heap.size, nv] bd 21 (B tk.text) ⟨#[]⟩ 0 tk.at_ sv bs acc := nba
        have K : Kp w.heap.size [br] w w5 := kpa
        have ml := MN.lt
        have mle := MN.lo_le
        have ml1 := M1.lt
        have ml0 := M0.lt
        have mz := K.size
        have m2 := M1.cell
        obtain ⟨m3, m4, -⟩ := MN.cell
        have mlc := MC.lt
        have mc := MC.cell
        go_wp2_with fail
        refine wp_region_U (S := (fun W => W.cell? ⟨nv, 0, none⟩ = some (ptrV bd) ∧ W.cell? ⟨bd, 5, none⟩ = some sv ∧ W.cell? ⟨cb, 0, none⟩ = some (ptrV br))) (F := [11,12,13]) (by kernel_rfl) ⟨m2, m3, mc⟩ (fun hHeld => ?_)
        refine tkU 0 (v := ?_) rfl (by kernel_rfl) (fun _ _ _ h => h) (Or.inl ⟨by rfl, ?_⟩) (by assumption) ?_
        rotate_left
        · intro w hSw; (try dsimp only at hSw); go_simp; try with_reducible rfl
        try simp only [Act.put, pz]
        refine tkU 1 (v := ?_) rfl (by kernel_rfl) (fun _ _ _ h => h) (Or.inl ⟨by rfl, ?_⟩) (by assumption) ?_
        rotate_left
        · intro w hSw; (try dsimp only at hSw); go_simp; try with_reducible rfl
        try simp only [Act.put, pz]
        refine tkU 2 (v := ?_) rfl (by kernel_rfl) (fun _ _ _ h => h) (Or.inl ⟨by rfl, ?_⟩) (by assumption) ?_
        rotate_left
        · intro w hSw; (try dsimp only at hSw); go_simp; try with_reducible rfl
        try simp only [Act.put, pz]
        refine tkU 3 (v := ?_) rfl (by kernel_rfl) (fun _ _ _ h => h) (Or.inl ⟨by rfl, ?_⟩) (by assumption) ?_
        rotate_left
        · intro w hSw; (try dsimp only at hSw); go_simp; try with_reducible rfl
        try simp only [Act.put, pz]
        refine tkU 4 (v := ?_) rfl (by kernel_rfl) (fun _ _ _ h => h) (Or.inl ⟨by rfl, ?_⟩) (by assumption) ?_
        rotate_left
        · intro w hSw; (try dsimp only at hSw); go_simp; try with_reducible rfl
        try simp only [Act.put, pz]
        refine tkU 5 (v := ?_) rfl (by kernel_rfl) (fun _ _ _ h => h) (Or.inl ⟨by rfl, ?_⟩) (by assumption) ?_
        rotate_left
        · intro w hSw; (try dsimp only at hSw); go_simp; try with_reducible rfl
        try simp only [Act.put, pz]
        refine tkU 6 (v := ?_) rfl (by kernel_rfl) (fun _ _ _ h => h) (Or.inl ⟨by rfl, ?_⟩) (by assumption) ?_
        rotate_left
        · intro w hSw; (try dsimp only at hSw); go_simp; try with_reducible rfl
        try simp only [Act.put, pz]
        refine tkU 7 (v := ?_) rfl (by kernel_rfl) (fun _ _ _ h => h) (Or.inl ⟨by rfl, ?_⟩) (by assumption) ?_
        rotate_left
        · intro w hSw; (try dsimp only at hSw); go_simp; try with_reducible rfl
        try simp only [Act.put, pz]
        refine wpAnyU_one (i := 8) (by kernel_rfl) rfl rfl (fun K1 hK => ?_)
        go_simp
        refine (HE _ (rda)).mono ?_
        clear hK
        rintro e w6 ⟨rfl, hk6⟩
        have z6 := hk6.size
        try simp at z6
        go_wp2
        exact ⟨rfl, rfl, kpa⟩
      | ok t p' =>
        have hlt := hlt t p' rfl
        dsimp only at hA
        have : ¬ cb = br := sza
        have : ¬ br = cb := sza
        go_wp2_with fail
        refine ((is_c (pos := p) (dep := dep) (toks := toks) (en := en) (lim := lim) (rda) ⟨#[41]⟩).mono ?_)
        rw [mk_toList, show isTok _ (#[41] : Array UInt8).toList = false from c1]
        rintro e w5 ⟨rfl, hk5⟩
        have z5 := hk5.size
        try simp at z5
        have lc5_0 := fun o => hk5.cell (cb) o sza sza
        have lf5_0 := fun o => hk5.frozen (cb) o sza sza
        have ll5_0 : cb < w5.heap.size := sza
        try simp at lc5_0
        try simp at lf5_0
        have lb5_0 := hk5.block (cb) sza sza
        have hr5 : Rdr toks en br lim p dep w5 := rda
        have M0 : Loc w5 w.heap.size (.pointer none) 30 := loca
        have M1 : Loc w5 nv (ptrV bd) 30 := loca
        have MC : Loc w5 cb (ptrV br) 73 := loca
        have MN : NodeB w5 w.heap.size [w.heap.size, nv] bd 21 (B tk.text) ⟨#[]⟩ 0 tk.at_ sv bs acc := nba
        have K : Kp w.heap.size [br] w w5 := kpa
        have hlen : acc.length ≤ 100000 := by have := rR.posle; have := rR.small; omega
        clear rL0 rL1 rLC rN rK rR
        have hr := hr5
        have ml := MN.lt
        have mle := MN.lo_le
        have ml1 := M1.lt
        have ml0 := M0.lt
        have mz := K.size
        have m2 := M1.cell
        obtain ⟨m3, m4, -⟩ := MN.cell
        have mlc := MC.lt
        have mc := MC.cell
        go_wp2_with fail
        refine wp_region_U (S := (fun W => W.cell? ⟨nv, 0, none⟩ = some (ptrV bd) ∧ W.cell? ⟨bd, 5, none⟩ = some sv ∧ W.cell? ⟨cb, 0, none⟩ = some (ptrV br))) (F := [11,12,13]) (by kernel_rfl) ⟨m2, m3, mc⟩ (fun hHeld => ?_)
        refine tkU 0 (v := ?_) rfl (by kernel_rfl) (fun _ _ _ h => h) (Or.inl ⟨by rfl, ?_⟩) (by assumption) ?_
        rotate_left
        · intro w hSw; (try dsimp only at hSw); go_simp; try with_reducible rfl
        try simp only [Act.put, pz]
        refine tkU 1 (v := ?_) rfl (by kernel_rfl) (fun _ _ _ h => h) (Or.inl ⟨by rfl, ?_⟩) (by assumption) ?_
        rotate_left
        · intro w hSw; (try dsimp only at hSw); go_simp; try with_reducible rfl
        try simp only [Act.put, pz]
        refine tkU 2 (v := ?_) rfl (by kernel_rfl) (fun _ _ _ h => h) (Or.inl ⟨by rfl, ?_⟩) (by assumption) ?_
        rotate_left
        · intro w hSw; (try dsimp only at hSw); go_simp; try with_reducible rfl
        try simp only [Act.put, pz]
        refine tkU 3 (v := ?_) rfl (by kernel_rfl) (fun _ _ _ h => h) (Or.inl ⟨by rfl, ?_⟩) (by assumption) ?_
        rotate_left
        · intro w hSw; (try dsimp only at hSw); go_simp; try with_reducible rfl
        try simp only [Act.put, pz]
        refine tkU 4 (v := ?_) rfl (by kernel_rfl) (fun _ _ _ h => h) (Or.inl ⟨by rfl, ?_⟩) (by assumption) ?_
        rotate_left
        · intro w hSw; (try dsimp only at hSw); go_simp; try with_reducible rfl
        try simp only [Act.put, pz]
        refine tkU 5 (v := ?_) rfl (by kernel_rfl) (fun _ _ _ h => h) (Or.inl ⟨by rfl, ?_⟩) (by assumption) ?_
        rotate_left
        · intro w hSw; (try dsimp only at hSw); go_simp; try with_reducible rfl
        try simp only [Act.put, pz]
        refine tkU 6 (v := ?_) rfl (by kernel_rfl) (fun _ _ _ h => h) (Or.inl ⟨by rfl, ?_⟩) (by assumption) ?_
        rotate_left
        · intro w hSw; (try dsimp only at hSw); go_simp; try with_reducible rfl
        try simp only [Act.put, pz]
        refine tkU 7 (v := ?_) rfl (by kernel_rfl) (fun _ _ _ h => h) (Or.inl ⟨by rfl, ?_⟩) (by assumption) ?_
        rotate_left
        · intro w hSw; (try dsimp only at hSw); go_simp; try with_reducible rfl
        try simp only [Act.put, pz]
        refine wpAnyU_one (i := 8) (by kernel_rfl) rfl rfl (fun K1 hK => ?_)
        go_simp
        refine (HE _ (rda)).mono ?_
        rintro e w6 ⟨b6, rfl, hT6, hr6, hk6⟩
        have z6 := hk6.size
        try simp at z6
        have M16 := M1.drew.kp hk6 sza sza
        have M06 := M0.drew.kp hk6 sza sza
        have MN6 := MN.drew.kp hk6 sza (by simp; omega)
        have MC6 := MC.drew.kp hk6 sza sza
        try dsimp only
        refine hK.out _ _ ?_ ?_
        · intro _; exact ⟨M16.cell, MN6.cell.1, MC6.cell⟩
        clear hK K1
        try simp only [Act.put, pz]
        refine wpAnyU_one (i := 9) (by kernel_rfl) rfl rfl (fun K1 hK => ?_)
        go_simp
        refine hK.out _ _ ?_ ?_
        · intro _; exact ⟨(M16.alloc _).cell, (MN6.alloc _).cell.1, (MC6.alloc _).cell⟩
        clear hK K1
        try simp only [Act.put, pz]
        have NN6 := MN6.alloc (.cells #[ptrV b6] 30)
        have nr6 := NN6.row
        refine wpAnyU_one (i := 10) (by kernel_rfl) rfl rfl (fun K1 hK => ?_)
        refine app_node 17 20 rfl _ sv bs b6 rfl nr6.1 ⟨w6.heap.size, 0, none⟩ rfl (by simp) (by rw [Kids.len _ _ nr6.2.2]; exact hlen) (by simp; omega) ?_
        intro g6 cap6 v6 how6 hgr6 hat6 hlt6
        obtain ⟨d36, d46⟩ := NN6.grown5 hgr6
        have M1G := (M16.alloc (.cells #[ptrV b6] 30)).grown hgr6 (NN6.exne (by simp))
        have M0G := (M06.alloc (.cells #[ptrV b6] 30)).grown hgr6 (NN6.exne (by simp))
        have MCG := (MC6.alloc (.cells #[ptrV b6] 30)).grown hgr6 (fun e => by have := NN6.own_ge e.symm; omega)
        have mcg := MCG.cell
        have m1g := M1G.cell
        have sG := hgr6.size
        simp at sG
        refine hK.out _ _ ?_ ?_
        · intro _; exact ⟨m1g, d36, mcg⟩
        clear hK K1
        try simp only [Act.put, pz]
        refine wpAnyU_one (i := 11) (by kernel_rfl) rfl rfl (fun K1 hK => ?_)
        go_simp
        refine hK.out _ _ ?_ ?_
        · intro hF; exact absurd hF (by decide)
        clear hK K1
        try simp only [Act.put, pz]
        refine wpAnyU_one (i := 12) (by kernel_rfl) rfl rfl (fun K1 hK => ?_)
        go_simp
        refine hK.out _ _ ?_ ?_
        · intro hF; exact absurd hF (by decide)
        clear hK K1
        try simp only [Act.put, pz]
        refine wpAnyU_one (i := 13) (by kernel_rfl) rfl rfl (fun K1 hK => ?_)
        go_simp
        refine hK.out _ _ ?_ ?_
        · intro hF; exact absurd hF (by decide)
        clear hK K1
        try simp only [Act.put, pz]
        refine wpAnyU_done (by kernel_rfl) ?_ _
        have hTA := hT6.frame (Nat.le_refl _) (Nat.le_refl _) (fun k _ hk => hA_old (o := .cells #[ptrV b6] 30) hk)
        have NP6 := NN6.push hTA sza sza (by intro y hy; simp at hy; have q1 := fun y h => (MN.row.2.1 y h).1; simp only [World.size_drew]; rcases hy with hy | hy | hy | hy; omega; (have := q1 y hy; omega); omega; omega) (by simp; omega) how6 hgr6 hat6 hlt6
        have K6 : Kp w.heap.size [br] w v6 := Kp.grown (kpa) (by simp; omega) hgr6 (fun k e => .inl (Nat.le_trans (by omega) (NN6.own_ge e)))
        have hrG := (hr6.alloc (.cells #[ptrV b6] 30)).grown hgr6 (fun k e => Nat.le_trans hlim (Nat.le_trans (by omega) (NN6.own_ge e)))
        have lt1G := M1G.lt
        have lt0G := M0G.lt
        replace hr := hrG.setCell (p := ⟨bd, 5, none⟩) (by simp; omega) (.slice (some ⟨g6, 0, none⟩) (bs.length + 1) cap6)
        replace K := K6.setCell (p := ⟨bd, 5, none⟩) (by left; simp; omega) (.slice (some ⟨g6, 0, none⟩) (bs.length + 1) cap6)
        replace M1 := M1G.other (c := bd) 5 (.slice (some ⟨g6, 0, none⟩) (bs.length + 1) cap6) (fun e => by have := MN.notin; simp [← e] at this)
        replace M0 := M0G.other (c := bd) 5 (.slice (some ⟨g6, 0, none⟩) (bs.length + 1) cap6) (fun e => by have := MN.notin; simp [← e] at this)
        replace MC := MCG.other (c := bd) 5 (.slice (some ⟨g6, 0, none⟩) (bs.length + 1) cap6) (by omega)
        replace MN := NP6.hide
        have szW : v6.heap.size ≤ (v6.setCell ⟨bd, 5, none⟩ (.slice (some ⟨g6, 0, none⟩) (bs.length + 1) cap6)).heap.size := by simp
        clear M16 M06 MN6 NN6 nr6 how6 hgr6 hat6 hlt6 d36 d46 M1G M0G m1g hTA hT6 NP6 K6 hrG hr6 hk6 m2 m3 m4 hHeld MC6 MCG mcg mc
        generalize v6.setCell ⟨bd, 5, none⟩ (.slice (some ⟨g6, 0, none⟩) (bs.length + 1) cap6) = W6 at *
        obtain ⟨sv, bs, MN⟩ := MN
        have m0l := M0.lt
        have m1l := M1.lt
        have mcl := MC.lt
        have mcc := MC.cell
        by_cases c2 : isTok (tokAt toks en p') kRpar = true
        · rw [if_pos c2] at hA
          have : ¬ cb = br := sza
          have : ¬ br = cb := sza
          go_wp2_with fail
          refine ((is_c (pos := p') (dep := dep) (toks := toks) (en := en) (lim := lim) (rda) ⟨#[41]⟩).mono ?_)
          rw [mk_toList, show isTok _ (#[41] : Array UInt8).toList = true from c2]
          rintro e w7 ⟨rfl, hk7⟩
          have z7 := hk7.size
          try simp at z7
          have lc7_0 := fun o => hk7.cell (cb) o sza sza
          have lf7_0 := fun o => hk7.frozen (cb) o sza sza
          have ll7_0 : cb < w7.heap.size := sza
          try simp at lc7_0
          try simp at lf7_0
          have lb7_0 := hk7.block (cb) sza sza
          have hr7 : Rdr toks en br lim p' dep w7 := rda
          have M0' : Loc w7 w.heap.size (.pointer none) 30 := loca
          have M1' : Loc w7 nv (ptrV bd) 30 := loca
          have MC' : Loc w7 cb (ptrV br) 73 := loca
          have MN' : NodeB w7 w.heap.size [w.heap.size, nv] bd 21 (B tk.text) ⟨#[]⟩ 0 tk.at_ sv bs (acc ++ [t]) := nba
          have K' : Kp w.heap.size [br] w w7 := kpa
          go_wp2
          go_roundg gk
          case measure => omega
          case rel => exact ⟨_, _, _, _, ⟨by omega, hA, by simp; omega⟩, hr7, M0', M1', MC', MN', K'⟩
        · rw [if_neg c2] at hA
          rw [Bool.not_eq_true] at c2
          by_cases c3 : isTok (tokAt toks en p') kComma = true
          · rw [if_pos c3] at hA
            by_cases c4 : isTok (tokAt toks en (p' + 1)) kRpar = true
            · rw [if_pos c4] at hA
              cases hA
              cases hq
              have : ¬ cb = br := sza
              have : ¬ br = cb := sza
              go_wp2_with fail
              refine ((is_c (pos := p') (dep := dep) (toks := toks) (en := en) (lim := lim) (rda) ⟨#[41]⟩).mono ?_)
              rw [mk_toList, show isTok _ (#[41] : Array UInt8).toList = false from c2]
              rintro e w7 ⟨rfl, hk7⟩
              have z7 := hk7.size
              try simp at z7
              have lc7_0 := fun o => hk7.cell (cb) o sza sza
              have lf7_0 := fun o => hk7.frozen (cb) o sza sza
              have ll7_0 : cb < w7.heap.size := sza
              try simp at lc7_0
              try simp at lf7_0
              have lb7_0 := hk7.block (cb) sza sza
              have hr7 : Rdr toks en br lim p' dep w7 := rda
              go_wp2_with fail
              refine (expect_yes (toks := toks) (en := en) (lim := lim) (dep := dep) (pos := p') (rda) ⟨#[44]⟩ (by rw [mk_toList]; exact c3)).mono ?_
              rintro e w8 ⟨rfl, hr8, hk8⟩
              have z8 := hk8.size
              try simp at z8
              have lc8_0 := fun o => hk8.cell (cb) o sza sza
              have lf8_0 := fun o => hk8.frozen (cb) o sza sza
              have ll8_0 : cb < w8.heap.size := sza
              try simp at lc8_0
              try simp at lf8_0
              have lb8_0 := hk8.block (cb) sza sza
              go_wp2_with fail
              refine ((is_c (pos := (p'+1)) (dep := dep) (toks := toks) (en := en) (lim := lim) (rda) ⟨#[41]⟩).mono ?_)
              rw [mk_toList, show isTok _ (#[41] : Array UInt8).toList = true from c4]
              rintro e w9 ⟨rfl, hk9⟩
              have z9 := hk9.size
              try simp at z9
              have lc9_0 := fun o => hk9.cell (cb) o sza sza
              have lf9_0 := fun o => hk9.frozen (cb) o sza sza
              have ll9_0 : cb < w9.heap.size := sza
              try simp at lc9_0
              try simp at lf9_0
              have lb9_0 := hk9.block (cb) sza sza
              have hr9 : Rdr toks en br lim (p'+1) dep w9 := rda
              go_wp2_with fail
              refine (fail_c (pos := p' + 1) (dep := dep) (toks := toks) (en := en) (lim := lim) (rda)).mono ?_
              rintro e w10 ⟨rfl, hk10⟩
              have z10 := hk10.size
              try simp at z10
              go_wp2
              exact ⟨rfl, rfl, kpa⟩
            · rw [if_neg c4] at hA
              rw [Bool.not_eq_true] at c4
              have : ¬ cb = br := sza
              have : ¬ br = cb := sza
              go_wp2_with fail
              refine ((is_c (pos := p') (dep := dep) (toks := toks) (en := en) (lim := lim) (rda) ⟨#[41]⟩).mono ?_)
              rw [mk_toList, show isTok _ (#[41] : Array UInt8).toList = false from c2]
              rintro e w7 ⟨rfl, hk7⟩
              have z7 := hk7.size
              try simp at z7
              have lc7_0 := fun o => hk7.cell (cb) o sza sza
              have lf7_0 := fun o => hk7.frozen (cb) o sza sza
              have ll7_0 : cb < w7.heap.size := sza
              try simp at lc7_0
              try simp at lf7_0
              have lb7_0 := hk7.block (cb) sza sza
              have hr7 : Rdr toks en br lim p' dep w7 := rda
              go_wp2_with fail
              refine (expect_yes (toks := toks) (en := en) (lim := lim) (dep := dep) (pos := p') (rda) ⟨#[44]⟩ (by rw [mk_toList]; exact c3)).mono ?_
              rintro e w8 ⟨rfl, hr8, hk8⟩
              have z8 := hk8.size
              try simp at z8
              have lc8_0 := fun o => hk8.cell (cb) o sza sza
              have lf8_0 := fun o => hk8.frozen (cb) o sza sza
              have ll8_0 : cb < w8.heap.size := sza
              try simp at lc8_0
              try simp at lf8_0
              have lb8_0 := hk8.block (cb) sza sza
              go_wp2_with fail
              refine ((is_c (pos := (p'+1)) (dep := dep) (toks := toks) (en := en) (lim := lim) (rda) ⟨#[41]⟩).mono ?_)
              rw [mk_toList, show isTok _ (#[41] : Array UInt8).toList = false from c4]
              rintro e w9 ⟨rfl, hk9⟩
              have z9 := hk9.size
              try simp at z9
              have lc9_0 := fun o => hk9.cell (cb) o sza sza
              have lf9_0 := fun o => hk9.frozen (cb) o sza sza
              have ll9_0 : cb < w9.heap.size := sza
              try simp at lc9_0
              try simp at lf9_0
              have lb9_0 := hk9.block (cb) sza sza
              have hr9 : Rdr toks en br lim (p'+1) dep w9 := rda
              have M0' : Loc w9 w.heap.size (.pointer none) 30 := loca
              have M1' : Loc w9 nv (ptrV bd) 30 := loca
              have MC' : Loc w9 cb (ptrV br) 73 := loca
              have MN' : NodeB w9 w.heap.size [w.heap.size, nv] bd 21 (B tk.text) ⟨#[]⟩ 0 tk.at_ sv bs (acc ++ [t]) := nba
              have K' : Kp w.heap.size [br] w w9 := kpa
              go_wp2
              go_roundg gk
              case measure => omega
              case rel => exact ⟨_, _, _, _, ⟨by omega, hA, by simp; omega⟩, hr9, M0', M1', MC', MN', K'⟩
          · rw [if_neg c3] at hA
            rw [Bool.not_eq_true] at c3
            cases hA
            cases hq
            have : ¬ cb = br := sza
            have : ¬ br = cb := sza
            go_wp2_with fail
            refine ((is_c (pos := p') (dep := dep) (toks := toks) (en := en) (lim := lim) (rda) ⟨#[41]⟩).mono ?_)
            rw [mk_toList, show isTok _ (#[41] : Array UInt8).toList = false from c2]
            rintro e w7 ⟨rfl, hk7⟩
            have z7 := hk7.size
            try simp at z7
            have lc7_0 := fun o => hk7.cell (cb) o sza sza
            have lf7_0 := fun o => hk7.frozen (cb) o sza sza
            have ll7_0 : cb < w7.heap.size := sza
            try simp at lc7_0
            try simp at lf7_0
            have lb7_0 := hk7.block (cb) sza sza
            have hr7 : Rdr toks en br lim p' dep w7 := rda
            go_wp2_with fail
            refine (expect_no (toks := toks) (en := en) (lim := lim) (dep := dep) (pos := p') (rda) ⟨#[44]⟩ (by rw [mk_toList]; exact c3)).mono ?_
            rintro e w8 ⟨rfl, hk8⟩
            have z8 := hk8.size
            try simp at z8
            go_wp2
            exact ⟨rfl, rfl, kpa⟩

end Go.Proofs.YtbplaekabeggkaaGreatDoor
