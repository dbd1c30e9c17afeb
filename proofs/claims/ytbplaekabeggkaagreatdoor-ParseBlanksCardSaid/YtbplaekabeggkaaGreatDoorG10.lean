/- PROVED: the law ParseBlanks of layer 4 answers true for every string, as its given card says (the listed package variables as the program lays them); no other condition. The parser, the lexer and the writer of the awake test are walked whole. Text 10 of 16. -/
import Derived.Test.YtbplaekabeggkaaGreatDoorG04
set_option linter.unusedSimpArgs false
set_option linter.unusedVariables false
namespace Go.Proofs.YtbplaekabeggkaaGreatDoor
open Go.RowKit

theorem levelOp_le (n : Nat) : levelOp n ≤ 5 := by unfold levelOp; (repeat' split) <;> omega
theorem levelTok_le (t : Tok) : (levelTok t).1 ≤ 5 := by
  unfold levelTok
  have := levelOp_le (signed2 t.text)
  (repeat' split) <;> simp <;> omega
theorem levelTok_kind {t : Tok} (h : (levelTok t).1 ≠ 0) : t.kind ≠ 0 := by
  intro hk
  apply h
  simp [levelTok, hk]

@[reducible] def lvA : Array Value := #[.int .i64 0, .int .i64 26, .int .i64 25, .int .i64 24, .int .i64 24, .int .i64 24]
theorem lv_cell {W : World} {g l : Nat} (h : Blk W g lvA 3) (h5 : l ≤ 5) (h0 : l ≠ 0) : W.cell? ⟨g, l, none⟩ = some (.int .i64 (opLevel l)) := by
  rw [h.cell]
  rcases l with _ | _ | _ | _ | _ | _ | l
  · exact absurd rfl h0
  all_goals first | rfl | omega

theorem lv_build {w : World} {o : Oper} {a : Act} {K : Act → World → Prop} {Q : Exit → Act → World → Prop}
    (ho : o.op = .buildSlice 59 6 #[(0, .const (.int .i64 0)), (1, .const (.int .i64 26)), (2, .const (.int .i64 25)), (3, .const (.int .i64 24)), (4, .const (.int .i64 24)), (5, .const (.int .i64 24))])
    (h : ∀ g, w.heap.size ≤ g → g < w.heap.size + 1 → Blk (w.alloc (.cells lvA 3)) g lvA 3 → K (a.put o.dst (.slice (some ⟨g, 0, none⟩) 6 6)) (w.alloc (.cells lvA 3))) : o.wp Tryz.prog a w K Q := by
  have h' := h _ (Nat.le_refl _) (Nat.lt_succ_self _) (Blk.new _ _ _)
  unfold Oper.wp execOp
  simp only [ho]
  go_simp
  exact h'

set_option maxRecDepth 100000 in
set_option maxHeartbeats 40000000 in
theorem expr_step {k : Nat} (hU : CUnary k) (hE : ∀ j, j ≤ k → CExpr j) : CExpr (k + 1) := by
  intro toks en br lim pos dep least w r hR hd hle hr
  have hlim := hR.limle
  have hbr := hR.lt
  rw [pExpr] at hr
  cases hX : pUnary k toks en dep pos with
  | none => rw [hX] at hr; cases hr
  | some x =>
  rw [hX] at hr
  have HE := fun w1 (h1 : Rdr toks en br lim pos dep w1) => hU toks en br lim pos dep w1 x h1 hd hX
  clear hX hU
  cases x with
  | stop a er =>
    cases hr
    have : ¬ w.heap.size = br := sza
    have : ¬ br = w.heap.size := sza
    go_enter Tryz.func181, Tryz.ntmps181
    go_wp2_with fail
    refine (HE _ (rda)).mono ?_
    rintro e w1 ⟨rfl, hk1⟩
    have z1 := hk1.size
    try simp at z1
    go_wp2
    exact ⟨rfl, rfl, kpa⟩
  | ok t p =>
  dsimp only at hr
  have : ¬ w.heap.size = br := sza
  have : ¬ br = w.heap.size := sza
  go_enter Tryz.func181, Tryz.ntmps181
  go_wp2_with fail
  refine (HE _ (rda)).mono ?_
  rintro e w1 ⟨b1, rfl, hT1, hr1, hk1⟩
  have z1 := hk1.size
  try simp at z1
  have lc1_0 := fun o => hk1.cell (w.heap.size) o sza sza
  have lf1_0 := fun o => hk1.frozen (w.heap.size) o sza sza
  have ll1_0 : w.heap.size < w1.heap.size := sza
  try simp at lc1_0
  try simp at lf1_0
  have lb1_0 := hk1.block (w.heap.size) sza sza
  clear HE
  have HA := Lib.hid hr
  clear hr
  go_wp2_with fail
  have L0 : Loc (w1.alloc (.cells #[ptrV b1] 30)) w.heap.size (.pointer none) 30 := loca
  go_loopg [] k (fun j wr => ∃ p t b, Go.Aside (j ≤ k ∧ pLoop j toks en dep least t p = some r) ∧ Rdr toks en br lim p dep wr ∧ Loc wr w.heap.size (.pointer none) 30 ∧ Loc wr w1.heap.size (ptrV b) 30 ∧
    IsX wr w.heap.size wr.heap.size [w.heap.size, w1.heap.size] b t ∧ Kp w.heap.size [br] w wr)
  case atStart =>
    refine ⟨_, _, b1, ⟨Nat.le_refl _, HA.out⟩, rda, loca, loca, ?_, kpa⟩
    refine IsX.frame (Nat.le_refl _) (by simp) (ex := [w.heap.size, w1.heap.size]) (by simp) (fun k _ hk hx => ?_) _ _ (IsT.isX (lo := w.heap.size) (hi := w1.heap.size) (by simp) (Nat.le_refl _) (by simp; omega) _ _ hT1)
    (repeat' (first | rfl | (rw [hS_ne (by first | omega | (simp; omega))]) | (rw [hA_old (by first | omega | (simp; omega))]) | (rw [hD]) | (rw [hDN])))
  case round =>
    obtain ⟨p, t, b, A, rR, rL0, rL1, rX, rK⟩ := hrel
    obtain ⟨hjk, hA⟩ := A.out
    have rl0 := rL0.lt
    have rl1 := rL1.lt
    have rz := rK.size
    have rc1 := rL1.cell
    have rc0 := rL0.cell
    have rf0 := rL0.frozen
    have rf1 := rL1.frozen
    generalize w1.heap.size = nv at *
    clear A HA L0 hr1 hk1 hT1 lc1_0 lf1_0 lb1_0
    cases gk with
    | zero => simp [pLoop] at hA
    | succ gk =>
    rw [pLoop] at hA
    try dsimp only at hA
    have hlv := levelTok_c rR
    have hl5 := levelTok_le (tokAt toks en p)
    have hlk := levelTok_kind (t := tokAt toks en p)
    generalize (levelTok (tokAt toks en p)).1 = l at *
    generalize (levelTok (tokAt toks en p)).2 = o2 at *
    by_cases c1 : l = 0 ∨ l < least
    · rw [if_pos c1] at hA
      cases hA
      have : ¬ w.heap.size = br := sza
      have : ¬ br = w.heap.size := sza
      have : ¬ nv = w.heap.size := sza
      have : ¬ w.heap.size = nv := sza
      have : ¬ nv = br := sza
      have : ¬ br = nv := sza
      by_cases c0 : l = 0
      · subst c0
        go_wp2_with fail
        refine (hlv).mono ?_
        rintro e w5 ⟨rfl, hk5⟩
        have z5 := hk5.size
        try simp at z5
        have lc5_0 := fun o => hk5.cell (w.heap.size) o sza sza
        have lf5_0 := fun o => hk5.frozen (w.heap.size) o sza sza
        have ll5_0 : w.heap.size < w5.heap.size := sza
        try simp at lc5_0
        try simp at lf5_0
        have lb5_0 := hk5.block (w.heap.size) sza sza
        have lc5_1 := fun o => hk5.cell (nv) o sza sza
        have lf5_1 := fun o => hk5.frozen (nv) o sza sza
        have ll5_1 : nv < w5.heap.size := sza
        try simp at lc5_1
        try simp at lf5_1
        have lb5_1 := hk5.block (nv) sza sza
        have hr5 : Rdr toks en br lim p dep w5 := rda
        go_wp2
        refine bodyPost_ret (v := .agg #[ptrV b]) (by simp [results, Tryz.results181, go_sem, *]) rfl ?_
        refine ⟨b, rfl, ?_, rda, kpa⟩
        refine IsX.isT _ _ (IsX.frame (Nat.le_refl _) (by simp; omega) (ex' := []) (by simp) (fun k hk hk' hx => ?_) _ _ rX)
        simp at hx
        rw [hS_ne (by omega), hk5.block k (by omega) (by simp)]
      · have c2 : l < least := c1.resolve_left c0
        have c0' : ((l : Int) == 0) = false := by simpa using c0
        have c2' : (l : Int) < least := by omega
        clear c1 c0 c2
        go_wp2_with fail
        refine (hlv).mono ?_
        rintro e w5 ⟨rfl, hk5⟩
        have z5 := hk5.size
        try simp at z5
        have lc5_0 := fun o => hk5.cell (w.heap.size) o sza sza
        have lf5_0 := fun o => hk5.frozen (w.heap.size) o sza sza
        have ll5_0 : w.heap.size < w5.heap.size := sza
        try simp at lc5_0
        try simp at lf5_0
        have lb5_0 := hk5.block (w.heap.size) sza sza
        have lc5_1 := fun o => hk5.cell (nv) o sza sza
        have lf5_1 := fun o => hk5.frozen (nv) o sza sza
        have ll5_1 : nv < w5.heap.size := sza
        try simp at lc5_1
        try simp at lf5_1
        have lb5_1 := hk5.block (nv) sza sza
        have hr5 : Rdr toks en br lim p dep w5 := rda
        go_wp2
        refine bodyPost_ret (v := .agg #[ptrV b]) (by simp [results, Tryz.results181, go_sem, *]) rfl ?_
        refine ⟨b, rfl, ?_, rda, kpa⟩
        refine IsX.isT _ _ (IsX.frame (Nat.le_refl _) (by simp; omega) (ex' := []) (by simp) (fun k hk hk' hx => ?_) _ _ rX)
        simp at hx
        rw [hS_ne (by omega), hk5.block k (by omega) (by simp)]
    rw [if_neg c1] at hA
    have cl0 : l ≠ 0 := fun e => c1 (Or.inl e)
    have cl1 : ¬ l < least := fun e => c1 (Or.inr e)
    have hp := tok_lt (en := en) (hlk cl0)
    have c0' : ((l : Int) == 0) = false := by simpa using cl0
    have c2' : ¬ (l : Int) < least := by omega
    clear c1 hlk
    cases hX : pExpr gk toks en dep (l + 1) (p + 1) with
    | none => rw [hX] at hA; cases hA
    | some y =>
    rw [hX] at hA
    have HE := fun w1 (h1 : Rdr toks en br lim (p + 1) dep w1) => hE gk (by omega) toks en br lim (p + 1) dep (l + 1) w1 y h1 hd (by omega) hX
    push_cast at HE
    have hl5i : (l : Int) ≤ 5 := by omega
    have hwr : IntKind.i64.wrap ((l : Int) + 1) = (l : Int) + 1 := by
      have q : l = 1 ∨ l = 2 ∨ l = 3 ∨ l = 4 ∨ l = 5 := by omega
      rcases q with q | q | q | q | q <;> (rw [q]; decide)
    have hl6i : (l : Int) < 6 := by omega
    have hl0i : (0 : Int) ≤ (l : Int) := by omega
    clear hX hE
    have : ¬ w.heap.size = br := sza
    have : ¬ br = w.heap.size := sza
    have : ¬ nv = w.heap.size := sza
    have : ¬ w.heap.size = nv := sza
    have : ¬ nv = br := sza
    have : ¬ br = nv := sza
    go_wp2_with fail
    refine (hlv).mono ?_
    rintro e w5 ⟨rfl, hk5⟩
    have z5 := hk5.size
    try simp at z5
    have lc5_0 := fun o => hk5.cell (w.heap.size) o sza sza
    have lf5_0 := fun o => hk5.frozen (w.heap.size) o sza sza
    have ll5_0 : w.heap.size < w5.heap.size := sza
    try simp at lc5_0
    try simp at lf5_0
    have lb5_0 := hk5.block (w.heap.size) sza sza
    have lc5_1 := fun o => hk5.cell (nv) o sza sza
    have lf5_1 := fun o => hk5.frozen (nv) o sza sza
    have ll5_1 : nv < w5.heap.size := sza
    try simp at lc5_1
    try simp at lf5_1
    have lb5_1 := hk5.block (nv) sza sza
    have hr5 : Rdr toks en br lim p dep w5 := rda
    go_wp2_with fail
    refine (take_c (pos := p) (dep := dep) (toks := toks) (en := en) (lim := lim) hr5 hp).mono ?_
    rintro e w6 ⟨rfl, hr6, hk6⟩
    have z6 := hk6.size
    try simp at z6
    have lc6_0 := fun o => hk6.cell (w.heap.size) o sza sza
    have lf6_0 := fun o => hk6.frozen (w.heap.size) o sza sza
    have ll6_0 : w.heap.size < w6.heap.size := sza
    try simp at lc6_0
    try simp at lf6_0
    have lb6_0 := hk6.block (w.heap.size) sza sza
    have lc6_1 := fun o => hk6.cell (nv) o sza sza
    have lf6_1 := fun o => hk6.frozen (nv) o sza sza
    have ll6_1 : nv < w6.heap.size := sza
    try simp at lc6_1
    try simp at lf6_1
    have lb6_1 := hk6.block (nv) sza sza
    have M0 : Loc w6 w.heap.size (.pointer none) 30 := loca
    have M1 : Loc w6 nv (ptrV b) 30 := loca
    have K56 : Kp wr.heap.size [br] wr w6 := kpa
    have MX : IsX w6 w.heap.size w6.heap.size [w.heap.size, nv] b t := IsX.frame (Nat.le_refl _) (by omega) (by simp) (fun k hk hk' hx => K56.block k (by omega) (by simp; omega)) _ _ rX
    have K6 : Kp w.heap.size [br] w w6 := by clear K56; exact kpa
    have m1 := M1.cell
    have m1l := M1.lt
    have m0l := M0.lt
    clear rX rL0 rL1 rK rR K56 hk5 hk6 hr5 z5 lc5_0 lf5_0 lb5_0 lc5_1 lf5_1 lb5_1 lc6_0 lf6_0 lb6_0 lc6_1 lf6_1 lb6_1 hlv
    cases y with
    | stop a er =>
      cases hA
      go_wp2_with fail
      refine wp_region_U (S := (fun W => W.cell? ⟨nv, 0, none⟩ = some (ptrV b))) (F := []) (by kernel_rfl) (by (first | (simp; done) | (simp [World.cell?_setCell_other, World.cell?_alloc_lt, *]; done))) (fun hHeld => ?_)
      refine tkU 1 (v := ?_) rfl (by kernel_rfl) (fun _ _ _ h => h) (Or.inl ⟨by rfl, ?_⟩) (by assumption) ?_
      rotate_left
      · intro w hSw; (try dsimp only at hSw); go_simp; try with_reducible rfl
      try simp only [Act.put, pz]
      refine tkU 4 (v := ?_) rfl (by kernel_rfl) (fun _ _ _ h => h) (Or.inl ⟨by rfl, ?_⟩) (by assumption) ?_
      rotate_left
      · intro w hSw; (try dsimp only at hSw); go_simp; try with_reducible rfl
      try simp only [Act.put, pz]
      refine tkU 5 (v := ?_) rfl (by kernel_rfl) (fun _ _ _ h => h) (Or.inl ⟨by rfl, ?_⟩) (by assumption) ?_
      rotate_left
      · intro w hSw; (try dsimp only at hSw); go_simp; try with_reducible rfl
      try simp only [Act.put, pz]
      refine tkU 6 (v := ?_) rfl (by kernel_rfl) (fun _ _ _ h => h) (Or.inl ⟨by rfl, ?_⟩) (by assumption) ?_
      rotate_left
      · intro w hSw; (try dsimp only at hSw); go_simp; try with_reducible rfl
      try simp only [Act.put, pz]
      refine tkU 7 (v := ?_) rfl (by kernel_rfl) (fun _ _ _ h => h) (Or.inl ⟨by rfl, ?_⟩) (by assumption) ?_
      rotate_left
      · intro w hSw; (try dsimp only at hSw); go_simp; try with_reducible rfl
      try simp only [Act.put, pz]
      refine tkU 8 (v := ?_) rfl (by kernel_rfl) (fun _ _ _ h => h) (Or.inl ⟨by rfl, ?_⟩) (by assumption) ?_
      rotate_left
      · intro w hSw; (try dsimp only at hSw); go_simp; try with_reducible rfl
      try simp only [Act.put, pz]
      refine wpAnyU_rs (rs := [0, 9, 12]) (by kernel_rfl) (by simp) (AllU.cons rfl rfl (fun K1 hK => ?_) (AllU.cons rfl rfl (fun K1 hK => ?_) (AllU.cons rfl rfl (fun K1 hK => ?_) AllU.nil)))
      · refine lv_build rfl (fun g0 hg0 hg0' hB0 => ?_)
        try simp at hg0
        try simp at hg0'
        try dsimp only
        try simp only [sz3]
        refine hK.out _ _ ?_ ?_
        · intro _; (refine Loc.cell (t := 30) ?_; exact loca)
        clear hK K1
        try simp only [Act.put, pz]
        refine wpAnyU_S (fun W => W.cell? ⟨nv, 0, none⟩ = some (ptrV b) ∧ W.cell? ⟨g0, l, none⟩ = some (.int .i64 (opLevel l))) (fun _ q => q.1) (by refine ⟨Loc.cell (t := 30) ?_, lv_cell hB0 hl5 cl0⟩; exact loca) (fun hS2 => ?_)
        refine tkU 2 (v := ?_) rfl (by kernel_rfl) (fun _ _ _ h => h) (Or.inl ⟨by rfl, ?_⟩) (by assumption) ?_
        rotate_left
        · intro w hSw; (try dsimp only at hSw); go_simp; try with_reducible rfl
        try simp only [Act.put, pz]
        refine tkU 3 (v := ?_) rfl (by kernel_rfl) (fun _ _ _ h => h) (Or.inl ⟨by rfl, ?_⟩) (by assumption) ?_
        rotate_left
        · intro w hSw; (try dsimp only at hSw); go_simp; try with_reducible rfl
        try simp only [Act.put, pz]
        refine wpAnyU_rs (rs := [9, 12]) (by kernel_rfl) (by simp) (AllU.cons rfl rfl (fun K1 hK => ?_) (AllU.cons rfl rfl (fun K1 hK => ?_) AllU.nil))
        · go_simp
          refine (HE _ (rda)).mono ?_
          clear hK
          rintro e w7 ⟨rfl, hk7⟩
          have z7 := hk7.size
          try simp at z7
          go_wp2
          exact ⟨rfl, rfl, kpa⟩
        · go_simp
          try dsimp only
          try simp only [sz3]
          refine hK.out _ _ ?_ ?_
          · intro _; (first | (refine Loc.cell (t := 30) ?_; exact loca) | (refine ⟨Loc.cell (t := 30) ?_, lv_cell ?_ hl5 cl0⟩; (focus (exact loca)); (repeat' (first | exact ⟨hB0.blk⟩ | assumption | (refine Blk.other ?_ _ _ ?_) | (refine Blk.alloc ?_ _) | (refine Blk.drew ?_) | (refine Blk.kp ?_ (by assumption) ?_ ?_) | omega | (simp; done) | (simp; omega)))))
          clear hK K1
          try simp only [Act.put, pz]
          refine wpAnyU_rs (rs := [9]) (by kernel_rfl) (by simp) (AllU.cons rfl rfl (fun K1 hK => ?_) AllU.nil)
          go_simp
          refine (HE _ (rda)).mono ?_
          clear hK
          rintro e w7 ⟨rfl, hk7⟩
          have z7 := hk7.size
          try simp at z7
          go_wp2
          exact ⟨rfl, rfl, kpa⟩
      · go_simp
        refine (HE _ (rda)).mono ?_
        clear hK
        rintro e w7 ⟨rfl, hk7⟩
        have z7 := hk7.size
        try simp at z7
        go_wp2
        exact ⟨rfl, rfl, kpa⟩
      · go_simp
        try dsimp only
        try simp only [sz3]
        refine hK.out _ _ ?_ ?_
        · intro _; (first | (refine Loc.cell (t := 30) ?_; exact loca) | (refine ⟨Loc.cell (t := 30) ?_, lv_cell ?_ hl5 cl0⟩; (focus (exact loca)); (repeat' (first | exact ⟨hB0.blk⟩ | assumption | (refine Blk.other ?_ _ _ ?_) | (refine Blk.alloc ?_ _) | (refine Blk.drew ?_) | (refine Blk.kp ?_ (by assumption) ?_ ?_) | omega | (simp; done) | (simp; omega)))))
        clear hK K1
        try simp only [Act.put, pz]
        refine wpAnyU_rs (rs := [0, 9]) (by kernel_rfl) (by simp) (AllU.cons rfl rfl (fun K1 hK => ?_) (AllU.cons rfl rfl (fun K1 hK => ?_) AllU.nil))
        · refine lv_build rfl (fun g0 hg0 hg0' hB0 => ?_)
          try simp at hg0
          try simp at hg0'
          try dsimp only
          try simp only [sz3]
          refine hK.out _ _ ?_ ?_
          · intro _; (refine Loc.cell (t := 30) ?_; exact loca)
          clear hK K1
          try simp only [Act.put, pz]
          refine wpAnyU_S (fun W => W.cell? ⟨nv, 0, none⟩ = some (ptrV b) ∧ W.cell? ⟨g0, l, none⟩ = some (.int .i64 (opLevel l))) (fun _ q => q.1) (by refine ⟨Loc.cell (t := 30) ?_, lv_cell hB0 hl5 cl0⟩; exact loca) (fun hS2 => ?_)
          refine tkU 2 (v := ?_) rfl (by kernel_rfl) (fun _ _ _ h => h) (Or.inl ⟨by rfl, ?_⟩) (by assumption) ?_
          rotate_left
          · intro w hSw; (try dsimp only at hSw); go_simp; try with_reducible rfl
          try simp only [Act.put, pz]
          refine tkU 3 (v := ?_) rfl (by kernel_rfl) (fun _ _ _ h => h) (Or.inl ⟨by rfl, ?_⟩) (by assumption) ?_
          rotate_left
          · intro w hSw; (try dsimp only at hSw); go_simp; try with_reducible rfl
          try simp only [Act.put, pz]
          refine wpAnyU_rs (rs := [9]) (by kernel_rfl) (by simp) (AllU.cons rfl rfl (fun K1 hK => ?_) AllU.nil)
          go_simp
          refine (HE _ (rda)).mono ?_
          clear hK
          rintro e w7 ⟨rfl, hk7⟩
          have z7 := hk7.size
          try simp at z7
          go_wp2
          exact ⟨rfl, rfl, kpa⟩
        · go_simp
          refine (HE _ (rda)).mono ?_
          clear hK
          rintro e w7 ⟨rfl, hk7⟩
          have z7 := hk7.size
          try simp at z7
          go_wp2
          exact ⟨rfl, rfl, kpa⟩
    | ok t2 p2 =>
      go_wp2_with fail
      refine wp_region_UR (R := fun a W => ∃ (g0 g1 b7 bd n9 : Nat), a = { tmps := #[.pointer (some ⟨br, 0, none⟩), .int .i64 least, undef, undef, .pointer (some ⟨w.heap.size, 0, none⟩), .pointer (some ⟨nv, 0, none⟩),
          .int .i64 l, .int .i64 o2, .int .i64 (tokAt toks en p).at_, .pointer (some ⟨n9, 0, none⟩), .pointer (some ⟨br, 0, none⟩), .agg #[ptrV b1], .tuple #[.int .i64 l, .int .i64 o2], .pointer (some ⟨br, 0, none⟩),
          .tuple #[.int .i64 l, .int .i64 o2], .int .i64 l, .int .i64 o2, .int .i64 l, .bool false, .bool false, .int .i64 l, .int .i64 least, .bool false, .bool false, u24, .pointer (some ⟨br, 0, none⟩),
          .agg #[.int .i64 (tokAt toks en p).kind, .string (B (tokAt toks en p).text), .int .i64 (tokAt toks en p).at_], .int .i64 (tokAt toks en p).at_,
          .slice (some ⟨g0, 0, none⟩) 6 6, .int .i64 l, .pointer (some ⟨g0, l, none⟩), .int .i64 (opLevel l), .int .i64 (tokAt toks en p).at_, .agg #[ptrV b], .pointer (some ⟨br, 0, none⟩), .int .i64 l, .int .i64 (l + 1),
          .agg #[ptrV b7], .slice (some ⟨g1, 0, none⟩) 2 2, .agg #[ptrV bd], u40, u41, u42, u43, u44, u45], defers := [] } ∧
        Rdr toks en br lim p2 dep W ∧ Loc W w.heap.size (.pointer none) 30 ∧ Loc W nv (ptrV b) 30 ∧ Loc W n9 (ptrV bd) 30 ∧ Kp w.heap.size [br] w W ∧
        Blk W bd #[.int .i64 (opLevel l), .string ⟨#[]⟩, .string ⟨#[]⟩, .int .i64 0, .int .i64 (tokAt toks en p).at_, .slice (some ⟨g1, 0, none⟩) 2 2] 108 ∧ Blk W g1 #[ptrV b, ptrV b7] 30 ∧
        (nv < g1 ∧ nv < bd ∧ nv < n9 ∧ bd ≠ g1 ∧ n9 ≠ bd ∧ n9 ≠ g1) ∧ IsXL W w.heap.size W.heap.size [w.heap.size, nv, n9, bd, g1] [b, b7] [t, t2])
        (S := fun W => W.cell? ⟨nv, 0, none⟩ = some (ptrV b)) (F := []) (by kernel_rfl) m1 ?_ (fun hHeld => ?_)
      · rintro a W ⟨g0, g1, b7, bd, n9, rfl, xR, x0, x1, x9, xK, xB, xG, xo, xX⟩
        obtain ⟨xo1, xo2, xo3, xo4, xo5, xo6⟩ := xo
        have y0 := x0.lt
        have y1 := x1.lt
        have y9 := x9.lt
        have yb := xB.lt
        have yg := xG.lt
        have yz := xK.size
        have y9c := x9.cell
        have yb3 := xB.cell 3
        have ybf := xB.frozen 3
        have y1f := x1.frozen
        have y1c := x1.cell
        simp at yb3
        have e1 : ¬ n9 = bd := xo5
        have e2 : ¬ bd = n9 := fun e => xo5 e.symm
        have e3 : ¬ nv = bd := by omega
        have e4 : ¬ bd = nv := by omega
        have e5 : ¬ n9 = nv := by omega
        have e6 : ¬ nv = n9 := by omega
        dsimp only [Exit.then]
        go_wp2
        go_roundg gk
        case measure => omega
        case rel =>
          refine ⟨p2, _, bd, ⟨by omega, hA⟩, rda, loca, Loc.set (v := ptrV b) (loca) _, ?_, kpa⟩
          refine IsX.built (g := g1) (name := []) (typ := []) (bs := [b, b7]) (ts := [t, t2]) (by omega) (by simp; omega) (by simp; omega) (by omega) (by simp; omega) (by simp; omega) ?_ (by simp) ?_ ?_
          · exact Blk.blk (t := 30) (bka)
          · rw [hS_ne e4, heap_setCell_same xB.blk]; rfl
          · refine IsXL.frame (Nat.le_refl _) (by simp) (by simp) (fun k hk hk' hx => ?_) _ _ xX
            simp at hx
            rw [hS_ne (by omega), hS_ne (by omega)]
      refine tkU 1 (v := ?_) rfl (by kernel_rfl) (fun _ _ _ h => h) (Or.inl ⟨by rfl, ?_⟩) (by assumption) ?_
      rotate_left
      · intro w hSw; (try dsimp only at hSw); go_simp; try with_reducible rfl
      try simp only [Act.put, pz]
      refine tkU 4 (v := ?_) rfl (by kernel_rfl) (fun _ _ _ h => h) (Or.inl ⟨by rfl, ?_⟩) (by assumption) ?_
      rotate_left
      · intro w hSw; (try dsimp only at hSw); go_simp; try with_reducible rfl
      try simp only [Act.put, pz]
      refine tkU 5 (v := ?_) rfl (by kernel_rfl) (fun _ _ _ h => h) (Or.inl ⟨by rfl, ?_⟩) (by assumption) ?_
      rotate_left
      · intro w hSw; (try dsimp only at hSw); go_simp; try with_reducible rfl
      try simp only [Act.put, pz]
      refine tkU 6 (v := ?_) rfl (by kernel_rfl) (fun _ _ _ h => h) (Or.inl ⟨by rfl, ?_⟩) (by assumption) ?_
      rotate_left
      · intro w hSw; (try dsimp only at hSw); go_simp; try with_reducible rfl
      try simp only [Act.put, pz]
      refine tkU 7 (v := ?_) rfl (by kernel_rfl) (fun _ _ _ h => h) (Or.inl ⟨by rfl, ?_⟩) (by assumption) ?_
      rotate_left
      · intro w hSw; (try dsimp only at hSw); go_simp; try with_reducible rfl
      try simp only [Act.put, pz]
      refine tkU 8 (v := ?_) rfl (by kernel_rfl) (fun _ _ _ h => h) (Or.inl ⟨by rfl, ?_⟩) (by assumption) ?_
      rotate_left
      · intro w hSw; (try dsimp only at hSw); go_simp; try with_reducible rfl
      try simp only [Act.put, pz]
      refine wpAnyU_rs (rs := [0, 9, 12]) (by kernel_rfl) (by simp) (AllU.cons rfl rfl (fun K1 hK => ?_) (AllU.cons rfl rfl (fun K1 hK => ?_) (AllU.cons rfl rfl (fun K1 hK => ?_) AllU.nil)))
      · refine lv_build rfl (fun g0 hg0 hg0' hB0 => ?_)
        try simp at hg0
        try simp at hg0'
        try dsimp only
        try simp only [sz3]
        refine hK.out _ _ ?_ ?_
        · intro _; (refine Loc.cell (t := 30) ?_; exact loca)
        clear hK K1
        try simp only [Act.put, pz]
        refine wpAnyU_S (fun W => W.cell? ⟨nv, 0, none⟩ = some (ptrV b) ∧ W.cell? ⟨g0, l, none⟩ = some (.int .i64 (opLevel l))) (fun _ q => q.1) (by refine ⟨Loc.cell (t := 30) ?_, lv_cell hB0 hl5 cl0⟩; exact loca) (fun hS2 => ?_)
        refine tkU 2 (v := ?_) rfl (by kernel_rfl) (fun _ _ _ h => h) (Or.inl ⟨by rfl, ?_⟩) (by assumption) ?_
        rotate_left
        · intro w hSw; (try dsimp only at hSw); go_simp; try with_reducible rfl
        try simp only [Act.put, pz]
        refine tkU 3 (v := ?_) rfl (by kernel_rfl) (fun _ _ _ h => h) (Or.inl ⟨by rfl, ?_⟩) (by assumption) ?_
        rotate_left
        · intro w hSw; (try dsimp only at hSw); go_simp; try with_reducible rfl
        try simp only [Act.put, pz]
        refine wpAnyU_rs (rs := [9, 12]) (by kernel_rfl) (by simp) (AllU.cons rfl rfl (fun K1 hK => ?_) (AllU.cons rfl rfl (fun K1 hK => ?_) AllU.nil))
        · go_simp
          refine (HE _ (rda)).mono ?_
          rintro e w7 ⟨b7, rfl, hT7, hr7, hk7⟩
          have z7 := hk7.size
          try simp at z7
          try dsimp only
          try simp only [sz3]
          refine hK.out _ _ ?_ ?_
          · intro _; (first | (refine Loc.cell (t := 30) ?_; exact loca) | (refine ⟨Loc.cell (t := 30) ?_, lv_cell ?_ hl5 cl0⟩; (focus (exact loca)); (repeat' (first | exact ⟨hB0.blk⟩ | assumption | (refine Blk.other ?_ _ _ ?_) | (refine Blk.alloc ?_ _) | (refine Blk.drew ?_) | (refine Blk.kp ?_ (by assumption) ?_ ?_) | omega | (simp; done) | (simp; omega)))))
          clear hK K1
          try simp only [Act.put, pz]
          refine wpAnyU_rs (rs := [10, 12]) (by kernel_rfl) (by simp) (AllU.cons rfl rfl (fun K1 hK => ?_) (AllU.cons rfl rfl (fun K1 hK => ?_) AllU.nil))
          · go_simp
            try dsimp only
            try simp only [sz3]
            refine hK.out _ _ ?_ ?_
            · intro _; (first | (refine Loc.cell (t := 30) ?_; exact loca) | (refine ⟨Loc.cell (t := 30) ?_, lv_cell ?_ hl5 cl0⟩; (focus (exact loca)); (repeat' (first | exact ⟨hB0.blk⟩ | assumption | (refine Blk.other ?_ _ _ ?_) | (refine Blk.alloc ?_ _) | (refine Blk.drew ?_) | (refine Blk.kp ?_ (by assumption) ?_ ?_) | omega | (simp; done) | (simp; omega)))))
            clear hK K1
            try simp only [Act.put, pz]
            refine wpAnyU_rs (rs := [11, 12]) (by kernel_rfl) (by simp) (AllU.cons rfl rfl (fun K1 hK => ?_) (AllU.cons rfl rfl (fun K1 hK => ?_) AllU.nil))
            · go_simp
              refine (plain_c _ _ _ _ _ _).mono ?_
              rintro e w8 ⟨rfl, s8, b8, hk8⟩
              have z8 := hk8.size
              try simp at s8
              try simp at z8
              try simp at b8
              have B8 := Blk.mk b8
              have z8' := Nat.le_of_eq s8.symm
              clear s8 b8
              try dsimp only
              try simp only [sz3]
              refine hK.out _ _ ?_ ?_
              · intro _; (first | (refine Loc.cell (t := 30) ?_; exact loca) | (refine ⟨Loc.cell (t := 30) ?_, lv_cell ?_ hl5 cl0⟩; (focus (exact loca)); (repeat' (first | exact ⟨hB0.blk⟩ | assumption | (refine Blk.other ?_ _ _ ?_) | (refine Blk.alloc ?_ _) | (refine Blk.drew ?_) | (refine Blk.kp ?_ (by assumption) ?_ ?_) | omega | (simp; done) | (simp; omega)))))
              clear hK K1
              try simp only [Act.put, pz]
              refine wpAnyU_rs (rs := [12]) (by kernel_rfl) (by simp) (AllU.cons rfl rfl (fun K1 hK => ?_) AllU.nil)
              go_simp
              try dsimp only
              try simp only [sz3]
              refine hK.out _ _ ?_ ?_
              · intro _; (first | (refine Loc.cell (t := 30) ?_; exact loca) | (refine ⟨Loc.cell (t := 30) ?_, lv_cell ?_ hl5 cl0⟩; (focus (exact loca)); (repeat' (first | exact ⟨hB0.blk⟩ | assumption | (refine Blk.other ?_ _ _ ?_) | (refine Blk.alloc ?_ _) | (refine Blk.drew ?_) | (refine Blk.kp ?_ (by assumption) ?_ ?_) | omega | (simp; done) | (simp; omega)))))
              clear hK K1
              try simp only [Act.put, pz]
              refine wpAnyU_rs (rs := [13]) (by kernel_rfl) (by simp) (AllU.cons rfl rfl (fun K1 hK => ?_) AllU.nil)
              refine st_node 9 39 rfl _ _ (.pointer none) rfl rfl (loca) ?_
              try dsimp only
              try simp only [sz3]
              refine hK.out _ _ ?_ ?_
              · intro _; (first | (refine Loc.cell (t := 30) ?_; exact loca) | (refine ⟨Loc.cell (t := 30) ?_, lv_cell ?_ hl5 cl0⟩; (focus (exact loca)); (repeat' (first | exact ⟨hB0.blk⟩ | assumption | (refine Blk.other ?_ _ _ ?_) | (refine Blk.alloc ?_ _) | (refine Blk.drew ?_) | (refine Blk.kp ?_ (by assumption) ?_ ?_) | omega | (simp; done) | (simp; omega)))))
              clear hK K1
              try simp only [Act.put, pz]
              refine wpAnyU_done (by kernel_rfl) ?_ _
              refine ⟨_, _, _, _, _, rfl, rda, loca, loca, loca, kpa, bka, bka, ?_, ?_⟩
              · refine ⟨?_, ?_, ?_, ?_, ?_, ?_⟩ <;> first | omega | (simp; omega)
              · refine ⟨IsX.frame (Nat.le_refl _) sza (by intro x hx; simp at hx ⊢; omega) (fun k hk hk' hx => Kp.block (n := w6.heap.size) (S := [br]) ?_ k hk' (by simp; omega)) _ _ MX, IsX.frame ?_ ?_ (by intro x hx; simp at hx ⊢; omega) (fun k hk hk' hx => ?_) _ _ (IsT.isX (ex := []) (Nat.le_refl _) (Nat.le_refl _) (by simp) _ _ hT7), trivial⟩
                · exact kpa
                · exact sza
                · exact sza
                · try simp at hk
                  (repeat' (first | rfl | (rw [hS_ne (by first | omega | (simp; omega))]) | (rw [hA_old (by first | omega | (simp; omega))]) | (rw [hD]) | (rw [hk8.block k (by first | omega | (simp; omega)) (by simp)])))
            · go_simp
              try dsimp only
              try simp only [sz3]
              refine hK.out _ _ ?_ ?_
              · intro _; (first | (refine Loc.cell (t := 30) ?_; exact loca) | (refine ⟨Loc.cell (t := 30) ?_, lv_cell ?_ hl5 cl0⟩; (focus (exact loca)); (repeat' (first | exact ⟨hB0.blk⟩ | assumption | (refine Blk.other ?_ _ _ ?_) | (refine Blk.alloc ?_ _) | (refine Blk.drew ?_) | (refine Blk.kp ?_ (by assumption) ?_ ?_) | omega | (simp; done) | (simp; omega)))))
              clear hK K1
              try simp only [Act.put, pz]
              refine wpAnyU_rs (rs := [11]) (by kernel_rfl) (by simp) (AllU.cons rfl rfl (fun K1 hK => ?_) AllU.nil)
              go_simp
              refine (plain_c _ _ _ _ _ _).mono ?_
              rintro e w8 ⟨rfl, s8, b8, hk8⟩
              have z8 := hk8.size
              try simp at s8
              try simp at z8
              try simp at b8
              have B8 := Blk.mk b8
              have z8' := Nat.le_of_eq s8.symm
              clear s8 b8
              try dsimp only
              try simp only [sz3]
              refine hK.out _ _ ?_ ?_
              · intro _; (first | (refine Loc.cell (t := 30) ?_; exact loca) | (refine ⟨Loc.cell (t := 30) ?_, lv_cell ?_ hl5 cl0⟩; (focus (exact loca)); (repeat' (first | exact ⟨hB0.blk⟩ | assumption | (refine Blk.other ?_ _ _ ?_) | (refine Blk.alloc ?_ _) | (refine Blk.drew ?_) | (refine Blk.kp ?_ (by assumption) ?_ ?_) | omega | (simp; done) | (simp; omega)))))
              clear hK K1
              try simp only [Act.put, pz]
              refine wpAnyU_rs (rs := [13]) (by kernel_rfl) (by simp) (AllU.cons rfl rfl (fun K1 hK => ?_) AllU.nil)
              refine st_node 9 39 rfl _ _ (.pointer none) rfl rfl (loca) ?_
              try dsimp only
              try simp only [sz3]
              refine hK.out _ _ ?_ ?_
              · intro _; (first | (refine Loc.cell (t := 30) ?_; exact loca) | (refine ⟨Loc.cell (t := 30) ?_, lv_cell ?_ hl5 cl0⟩; (focus (exact loca)); (repeat' (first | exact ⟨hB0.blk⟩ | assumption | (refine Blk.other ?_ _ _ ?_) | (refine Blk.alloc ?_ _) | (refine Blk.drew ?_) | (refine Blk.kp ?_ (by assumption) ?_ ?_) | omega | (simp; done) | (simp; omega)))))
              clear hK K1
              try simp only [Act.put, pz]
              refine wpAnyU_done (by kernel_rfl) ?_ _
              refine ⟨_, _, _, _, _, rfl, rda, loca, loca, loca, kpa, bka, bka, ?_, ?_⟩
              · refine ⟨?_, ?_, ?_, ?_, ?_, ?_⟩ <;> first | omega | (simp; omega)
              · refine ⟨IsX.frame (Nat.le_refl _) sza (by intro x hx; simp at hx ⊢; omega) (fun k hk hk' hx => Kp.block (n := w6.heap.size) (S := [br]) ?_ k hk' (by simp; omega)) _ _ MX, IsX.frame ?_ ?_ (by intro x hx; simp at hx ⊢; omega) (fun k hk hk' hx => ?_) _ _ (IsT.isX (ex := []) (Nat.le_refl _) (Nat.le_refl _) (by simp) _ _ hT7), trivial⟩
                · exact kpa
                · exact sza
                · exact sza
                · try simp at hk
                  (repeat' (first | rfl | (rw [hS_ne (by first | omega | (simp; omega))]) | (rw [hA_old (by first | omega | (simp; omega))]) | (rw [hD]) | (rw [hk8.block k (by first | omega | (simp; omega)) (by simp)])))
          · go_simp
            try dsimp only
            try simp only [sz3]
            refine hK.out _ _ ?_ ?_
            · intro _; (first | (refine Loc.cell (t := 30) ?_; exact loca) | (refine ⟨Loc.cell (t := 30) ?_, lv_cell ?_ hl5 cl0⟩; (focus (exact loca)); (repeat' (first | exact ⟨hB0.blk⟩ | assumption | (refine Blk.other ?_ _ _ ?_) | (refine Blk.alloc ?_ _) | (refine Blk.drew ?_) | (refine Blk.kp ?_ (by assumption) ?_ ?_) | omega | (simp; done) | (simp; omega)))))
            clear hK K1
            try simp only [Act.put, pz]
            refine wpAnyU_rs (rs := [10]) (by kernel_rfl) (by simp) (AllU.cons rfl rfl (fun K1 hK => ?_) AllU.nil)
            go_simp
            try dsimp only
            try simp only [sz3]
            refine hK.out _ _ ?_ ?_
            · intro _; (first | (refine Loc.cell (t := 30) ?_; exact loca) | (refine ⟨Loc.cell (t := 30) ?_, lv_cell ?_ hl5 cl0⟩; (focus (exact loca)); (repeat' (first | exact ⟨hB0.blk⟩ | assumption | (refine Blk.other ?_ _ _ ?_) | (refine Blk.alloc ?_ _) | (refine Blk.drew ?_) | (refine Blk.kp ?_ (by assumption) ?_ ?_) | omega | (simp; done) | (simp; omega)))))
            clear hK K1
            try simp only [Act.put, pz]
            refine wpAnyU_rs (rs := [11]) (by kernel_rfl) (by simp) (AllU.cons rfl rfl (fun K1 hK => ?_) AllU.nil)
            go_simp
            refine (plain_c _ _ _ _ _ _).mono ?_
            rintro e w8 ⟨rfl, s8, b8, hk8⟩
            have z8 := hk8.size
            try simp at s8
            try simp at z8
            try simp at b8
            have B8 := Blk.mk b8
            have z8' := Nat.le_of_eq s8.symm
            clear s8 b8
            try dsimp only
            try simp only [sz3]
            refine hK.out _ _ ?_ ?_
            · intro _; (first | (refine Loc.cell (t := 30) ?_; exact loca) | (refine ⟨Loc.cell (t := 30) ?_, lv_cell ?_ hl5 cl0⟩; (focus (exact loca)); (repeat' (first | exact ⟨hB0.blk⟩ | assumption | (refine Blk.other ?_ _ _ ?_) | (refine Blk.alloc ?_ _) | (refine Blk.drew ?_) | (refine Blk.kp ?_ (by assumption) ?_ ?_) | omega | (simp; done) | (simp; omega)))))
            clear hK K1
            try simp only [Act.put, pz]
            refine wpAnyU_rs (rs := [13]) (by kernel_rfl) (by simp) (AllU.cons rfl rfl (fun K1 hK => ?_) AllU.nil)
            refine st_node 9 39 rfl _ _ (.pointer none) rfl rfl (loca) ?_
            try dsimp only
            try simp only [sz3]
            refine hK.out _ _ ?_ ?_
            · intro _; (first | (refine Loc.cell (t := 30) ?_; exact loca) | (refine ⟨Loc.cell (t := 30) ?_, lv_cell ?_ hl5 cl0⟩; (focus (exact loca)); (repeat' (first | exact ⟨hB0.blk⟩ | assumption | (refine Blk.other ?_ _ _ ?_) | (refine Blk.alloc ?_ _) | (refine Blk.drew ?_) | (refine Blk.kp ?_ (by assumption) ?_ ?_) | omega | (simp; done) | (simp; omega)))))
            clear hK K1
            try simp only [Act.put, pz]
            refine wpAnyU_done (by kernel_rfl) ?_ _
            refine ⟨_, _, _, _, _, rfl, rda, loca, loca, loca, kpa, bka, bka, ?_, ?_⟩
            · refine ⟨?_, ?_, ?_, ?_, ?_, ?_⟩ <;> first | omega | (simp; omega)
            · refine ⟨IsX.frame (Nat.le_refl _) sza (by intro x hx; simp at hx ⊢; omega) (fun k hk hk' hx => Kp.block (n := w6.heap.size) (S := [br]) ?_ k hk' (by simp; omega)) _ _ MX, IsX.frame ?_ ?_ (by intro x hx; simp at hx ⊢; omega) (fun k hk hk' hx => ?_) _ _ (IsT.isX (ex := []) (Nat.le_refl _) (Nat.le_refl _) (by simp) _ _ hT7), trivial⟩
              · exact kpa
              · exact sza
              · exact sza
              · try simp at hk
                (repeat' (first | rfl | (rw [hS_ne (by first | omega | (simp; omega))]) | (rw [hA_old (by first | omega | (simp; omega))]) | (rw [hD]) | (rw [hk8.block k (by first | omega | (simp; omega)) (by simp)])))
        · go_simp
          try dsimp only
          try simp only [sz3]
          refine hK.out _ _ ?_ ?_
          · intro _; (first | (refine Loc.cell (t := 30) ?_; exact loca) | (refine ⟨Loc.cell (t := 30) ?_, lv_cell ?_ hl5 cl0⟩; (focus (exact loca)); (repeat' (first | exact ⟨hB0.blk⟩ | assumption | (refine Blk.other ?_ _ _ ?_) | (refine Blk.alloc ?_ _) | (refine Blk.drew ?_) | (refine Blk.kp ?_ (by assumption) ?_ ?_) | omega | (simp; done) | (simp; omega)))))
          clear hK K1
          try simp only [Act.put, pz]
          refine wpAnyU_rs (rs := [9]) (by kernel_rfl) (by simp) (AllU.cons rfl rfl (fun K1 hK => ?_) AllU.nil)
          go_simp
          refine (HE _ (rda)).mono ?_
          rintro e w7 ⟨b7, rfl, hT7, hr7, hk7⟩
          have z7 := hk7.size
          try simp at z7
          try dsimp only
          try simp only [sz3]
          refine hK.out _ _ ?_ ?_
          · intro _; (first | (refine Loc.cell (t := 30) ?_; exact loca) | (refine ⟨Loc.cell (t := 30) ?_, lv_cell ?_ hl5 cl0⟩; (focus (exact loca)); (repeat' (first | exact ⟨hB0.blk⟩ | assumption | (refine Blk.other ?_ _ _ ?_) | (refine Blk.alloc ?_ _) | (refine Blk.drew ?_) | (refine Blk.kp ?_ (by assumption) ?_ ?_) | omega | (simp; done) | (simp; omega)))))
          clear hK K1
          try simp only [Act.put, pz]
          refine wpAnyU_rs (rs := [10]) (by kernel_rfl) (by simp) (AllU.cons rfl rfl (fun K1 hK => ?_) AllU.nil)
          go_simp
          try dsimp only
          try simp only [sz3]
          refine hK.out _ _ ?_ ?_
          · intro _; (first | (refine Loc.cell (t := 30) ?_; exact loca) | (refine ⟨Loc.cell (t := 30) ?_, lv_cell ?_ hl5 cl0⟩; (focus (exact loca)); (repeat' (first | exact ⟨hB0.blk⟩ | assumption | (refine Blk.other ?_ _ _ ?_) | (refine Blk.alloc ?_ _) | (refine Blk.drew ?_) | (refine Blk.kp ?_ (by assumption) ?_ ?_) | omega | (simp; done) | (simp; omega)))))
          clear hK K1
          try simp only [Act.put, pz]
          refine wpAnyU_rs (rs := [11]) (by kernel_rfl) (by simp) (AllU.cons rfl rfl (fun K1 hK => ?_) AllU.nil)
          go_simp
          refine (plain_c _ _ _ _ _ _).mono ?_
          rintro e w8 ⟨rfl, s8, b8, hk8⟩
          have z8 := hk8.size
          try simp at s8
          try simp at z8
          try simp at b8
          have B8 := Blk.mk b8
          have z8' := Nat.le_of_eq s8.symm
          clear s8 b8
          try dsimp only
          try simp only [sz3]
          refine hK.out _ _ ?_ ?_
          · intro _; (first | (refine Loc.cell (t := 30) ?_; exact loca) | (refine ⟨Loc.cell (t := 30) ?_, lv_cell ?_ hl5 cl0⟩; (focus (exact loca)); (repeat' (first | exact ⟨hB0.blk⟩ | assumption | (refine Blk.other ?_ _ _ ?_) | (refine Blk.alloc ?_ _) | (refine Blk.drew ?_) | (refine Blk.kp ?_ (by assumption) ?_ ?_) | omega | (simp; done) | (simp; omega)))))
          clear hK K1
          try simp only [Act.put, pz]
          refine wpAnyU_rs (rs := [13]) (by kernel_rfl) (by simp) (AllU.cons rfl rfl (fun K1 hK => ?_) AllU.nil)
          refine st_node 9 39 rfl _ _ (.pointer none) rfl rfl (loca) ?_
          try dsimp only
          try simp only [sz3]
          refine hK.out _ _ ?_ ?_
          · intro _; (first | (refine Loc.cell (t := 30) ?_; exact loca) | (refine ⟨Loc.cell (t := 30) ?_, lv_cell ?_ hl5 cl0⟩; (focus (exact loca)); (repeat' (first | exact ⟨hB0.blk⟩ | assumption | (refine Blk.other ?_ _ _ ?_) | (refine Blk.alloc ?_ _) | (refine Blk.drew ?_) | (refine Blk.kp ?_ (by assumption) ?_ ?_) | omega | (simp; done) | (simp; omega)))))
          clear hK K1
          try simp only [Act.put, pz]
          refine wpAnyU_done (by kernel_rfl) ?_ _
          refine ⟨_, _, _, _, _, rfl, rda, loca, loca, loca, kpa, bka, bka, ?_, ?_⟩
          · refine ⟨?_, ?_, ?_, ?_, ?_, ?_⟩ <;> first | omega | (simp; omega)
          · refine ⟨IsX.frame (Nat.le_refl _) sza (by intro x hx; simp at hx ⊢; omega) (fun k hk hk' hx => Kp.block (n := w6.heap.size) (S := [br]) ?_ k hk' (by simp; omega)) _ _ MX, IsX.frame ?_ ?_ (by intro x hx; simp at hx ⊢; omega) (fun k hk hk' hx => ?_) _ _ (IsT.isX (ex := []) (Nat.le_refl _) (Nat.le_refl _) (by simp) _ _ hT7), trivial⟩
            · exact kpa
            · exact sza
            · exact sza
            · try simp at hk
              (repeat' (first | rfl | (rw [hS_ne (by first | omega | (simp; omega))]) | (rw [hA_old (by first | omega | (simp; omega))]) | (rw [hD]) | (rw [hk8.block k (by first | omega | (simp; omega)) (by simp)])))
      · go_simp
        refine (HE _ (rda)).mono ?_
        rintro e w7 ⟨b7, rfl, hT7, hr7, hk7⟩
        have z7 := hk7.size
        try simp at z7
        try dsimp only
        try simp only [sz3]
        refine hK.out _ _ ?_ ?_
        · intro _; (first | (refine Loc.cell (t := 30) ?_; exact loca) | (refine ⟨Loc.cell (t := 30) ?_, lv_cell ?_ hl5 cl0⟩; (focus (exact loca)); (repeat' (first | exact ⟨hB0.blk⟩ | assumption | (refine Blk.other ?_ _ _ ?_) | (refine Blk.alloc ?_ _) | (refine Blk.drew ?_) | (refine Blk.kp ?_ (by assumption) ?_ ?_) | omega | (simp; done) | (simp; omega)))))
        clear hK K1
        try simp only [Act.put, pz]
        refine wpAnyU_rs (rs := [0, 10, 12]) (by kernel_rfl) (by simp) (AllU.cons rfl rfl (fun K1 hK => ?_) (AllU.cons rfl rfl (fun K1 hK => ?_) (AllU.cons rfl rfl (fun K1 hK => ?_) AllU.nil)))
        · refine lv_build rfl (fun g0 hg0 hg0' hB0 => ?_)
          try simp at hg0
          try simp at hg0'
          try dsimp only
          try simp only [sz3]
          refine hK.out _ _ ?_ ?_
          · intro _; (refine Loc.cell (t := 30) ?_; exact loca)
          clear hK K1
          try simp only [Act.put, pz]
          refine wpAnyU_S (fun W => W.cell? ⟨nv, 0, none⟩ = some (ptrV b) ∧ W.cell? ⟨g0, l, none⟩ = some (.int .i64 (opLevel l))) (fun _ q => q.1) (by refine ⟨Loc.cell (t := 30) ?_, lv_cell hB0 hl5 cl0⟩; exact loca) (fun hS2 => ?_)
          refine tkU 2 (v := ?_) rfl (by kernel_rfl) (fun _ _ _ h => h) (Or.inl ⟨by rfl, ?_⟩) (by assumption) ?_
          rotate_left
          · intro w hSw; (try dsimp only at hSw); go_simp; try with_reducible rfl
          try simp only [Act.put, pz]
          refine tkU 3 (v := ?_) rfl (by kernel_rfl) (fun _ _ _ h => h) (Or.inl ⟨by rfl, ?_⟩) (by assumption) ?_
          rotate_left
          · intro w hSw; (try dsimp only at hSw); go_simp; try with_reducible rfl
          try simp only [Act.put, pz]
          refine wpAnyU_rs (rs := [10, 12]) (by kernel_rfl) (by simp) (AllU.cons rfl rfl (fun K1 hK => ?_) (AllU.cons rfl rfl (fun K1 hK => ?_) AllU.nil))
          · go_simp
            try dsimp only
            try simp only [sz3]
            refine hK.out _ _ ?_ ?_
            · intro _; (first | (refine Loc.cell (t := 30) ?_; exact loca) | (refine ⟨Loc.cell (t := 30) ?_, lv_cell ?_ hl5 cl0⟩; (focus (exact loca)); (repeat' (first | exact ⟨hB0.blk⟩ | assumption | (refine Blk.other ?_ _ _ ?_) | (refine Blk.alloc ?_ _) | (refine Blk.drew ?_) | (refine Blk.kp ?_ (by assumption) ?_ ?_) | omega | (simp; done) | (simp; omega)))))
            clear hK K1
            try simp only [Act.put, pz]
            refine wpAnyU_rs (rs := [11, 12]) (by kernel_rfl) (by simp) (AllU.cons rfl rfl (fun K1 hK => ?_) (AllU.cons rfl rfl (fun K1 hK => ?_) AllU.nil))
            · go_simp
              refine (plain_c _ _ _ _ _ _).mono ?_
              rintro e w8 ⟨rfl, s8, b8, hk8⟩
              have z8 := hk8.size
              try simp at s8
              try simp at z8
              try simp at b8
              have B8 := Blk.mk b8
              have z8' := Nat.le_of_eq s8.symm
              clear s8 b8
              try dsimp only
              try simp only [sz3]
              refine hK.out _ _ ?_ ?_
              · intro _; (first | (refine Loc.cell (t := 30) ?_; exact loca) | (refine ⟨Loc.cell (t := 30) ?_, lv_cell ?_ hl5 cl0⟩; (focus (exact loca)); (repeat' (first | exact ⟨hB0.blk⟩ | assumption | (refine Blk.other ?_ _ _ ?_) | (refine Blk.alloc ?_ _) | (refine Blk.drew ?_) | (refine Blk.kp ?_ (by assumption) ?_ ?_) | omega | (simp; done) | (simp; omega)))))
              clear hK K1
              try simp only [Act.put, pz]
              refine wpAnyU_rs (rs := [12]) (by kernel_rfl) (by simp) (AllU.cons rfl rfl (fun K1 hK => ?_) AllU.nil)
              go_simp
              try dsimp only
              try simp only [sz3]
              refine hK.out _ _ ?_ ?_
              · intro _; (first | (refine Loc.cell (t := 30) ?_; exact loca) | (refine ⟨Loc.cell (t := 30) ?_, lv_cell ?_ hl5 cl0⟩; (focus (exact loca)); (repeat' (first | exact ⟨hB0.blk⟩ | assumption | (refine Blk.other ?_ _ _ ?_) | (refine Blk.alloc ?_ _) | (refine Blk.drew ?_) | (refine Blk.kp ?_ (by assumption) ?_ ?_) | omega | (simp; done) | (simp; omega)))))
              clear hK K1
              try simp only [Act.put, pz]
              refine wpAnyU_rs (rs := [13]) (by kernel_rfl) (by simp) (AllU.cons rfl rfl (fun K1 hK => ?_) AllU.nil)
              refine st_node 9 39 rfl _ _ (.pointer none) rfl rfl (loca) ?_
              try dsimp only
              try simp only [sz3]
              refine hK.out _ _ ?_ ?_
              · intro _; (first | (refine Loc.cell (t := 30) ?_; exact loca) | (refine ⟨Loc.cell (t := 30) ?_, lv_cell ?_ hl5 cl0⟩; (focus (exact loca)); (repeat' (first | exact ⟨hB0.blk⟩ | assumption | (refine Blk.other ?_ _ _ ?_) | (refine Blk.alloc ?_ _) | (refine Blk.drew ?_) | (refine Blk.kp ?_ (by assumption) ?_ ?_) | omega | (simp; done) | (simp; omega)))))
              clear hK K1
              try simp only [Act.put, pz]
              refine wpAnyU_done (by kernel_rfl) ?_ _
              refine ⟨_, _, _, _, _, rfl, rda, loca, loca, loca, kpa, bka, bka, ?_, ?_⟩
              · refine ⟨?_, ?_, ?_, ?_, ?_, ?_⟩ <;> first | omega | (simp; omega)
              · refine ⟨IsX.frame (Nat.le_refl _) sza (by intro x hx; simp at hx ⊢; omega) (fun k hk hk' hx => Kp.block (n := w6.heap.size) (S := [br]) ?_ k hk' (by simp; omega)) _ _ MX, IsX.frame ?_ ?_ (by intro x hx; simp at hx ⊢; omega) (fun k hk hk' hx => ?_) _ _ (IsT.isX (ex := []) (Nat.le_refl _) (Nat.le_refl _) (by simp) _ _ hT7), trivial⟩
                · exact kpa
                · exact sza
                · exact sza
                · try simp at hk
                  (repeat' (first | rfl | (rw [hS_ne (by first | omega | (simp; omega))]) | (rw [hA_old (by first | omega | (simp; omega))]) | (rw [hD]) | (rw [hk8.block k (by first | omega | (simp; omega)) (by simp)])))
            · go_simp
              try dsimp only
              try simp only [sz3]
              refine hK.out _ _ ?_ ?_
              · intro _; (first | (refine Loc.cell (t := 30) ?_; exact loca) | (refine ⟨Loc.cell (t := 30) ?_, lv_cell ?_ hl5 cl0⟩; (focus (exact loca)); (repeat' (first | exact ⟨hB0.blk⟩ | assumption | (refine Blk.other ?_ _ _ ?_) | (refine Blk.alloc ?_ _) | (refine Blk.drew ?_) | (refine Blk.kp ?_ (by assumption) ?_ ?_) | omega | (simp; done) | (simp; omega)))))
              clear hK K1
              try simp only [Act.put, pz]
              refine wpAnyU_rs (rs := [11]) (by kernel_rfl) (by simp) (AllU.cons rfl rfl (fun K1 hK => ?_) AllU.nil)
              go_simp
              refine (plain_c _ _ _ _ _ _).mono ?_
              rintro e w8 ⟨rfl, s8, b8, hk8⟩
              have z8 := hk8.size
              try simp at s8
              try simp at z8
              try simp at b8
              have B8 := Blk.mk b8
              have z8' := Nat.le_of_eq s8.symm
              clear s8 b8
              try dsimp only
              try simp only [sz3]
              refine hK.out _ _ ?_ ?_
              · intro _; (first | (refine Loc.cell (t := 30) ?_; exact loca) | (refine ⟨Loc.cell (t := 30) ?_, lv_cell ?_ hl5 cl0⟩; (focus (exact loca)); (repeat' (first | exact ⟨hB0.blk⟩ | assumption | (refine Blk.other ?_ _ _ ?_) | (refine Blk.alloc ?_ _) | (refine Blk.drew ?_) | (refine Blk.kp ?_ (by assumption) ?_ ?_) | omega | (simp; done) | (simp; omega)))))
              clear hK K1
              try simp only [Act.put, pz]
              refine wpAnyU_rs (rs := [13]) (by kernel_rfl) (by simp) (AllU.cons rfl rfl (fun K1 hK => ?_) AllU.nil)
              refine st_node 9 39 rfl _ _ (.pointer none) rfl rfl (loca) ?_
              try dsimp only
              try simp only [sz3]
              refine hK.out _ _ ?_ ?_
              · intro _; (first | (refine Loc.cell (t := 30) ?_; exact loca) | (refine ⟨Loc.cell (t := 30) ?_, lv_cell ?_ hl5 cl0⟩; (focus (exact loca)); (repeat' (first | exact ⟨hB0.blk⟩ | assumption | (refine Blk.other ?_ _ _ ?_) | (refine Blk.alloc ?_ _) | (refine Blk.drew ?_) | (refine Blk.kp ?_ (by assumption) ?_ ?_) | omega | (simp; done) | (simp; omega)))))
              clear hK K1
              try simp only [Act.put, pz]
              refine wpAnyU_done (by kernel_rfl) ?_ _
              refine ⟨_, _, _, _, _, rfl, rda, loca, loca, loca, kpa, bka, bka, ?_, ?_⟩
              · refine ⟨?_, ?_, ?_, ?_, ?_, ?_⟩ <;> first | omega | (simp; omega)
              · refine ⟨IsX.frame (Nat.le_refl _) sza (by intro x hx; simp at hx ⊢; omega) (fun k hk hk' hx => Kp.block (n := w6.heap.size) (S := [br]) ?_ k hk' (by simp; omega)) _ _ MX, IsX.frame ?_ ?_ (by intro x hx; simp at hx ⊢; omega) (fun k hk hk' hx => ?_) _ _ (IsT.isX (ex := []) (Nat.le_refl _) (Nat.le_refl _) (by simp) _ _ hT7), trivial⟩
                · exact kpa
                · exact sza
                · exact sza
                · try simp at hk
                  (repeat' (first | rfl | (rw [hS_ne (by first | omega | (simp; omega))]) | (rw [hA_old (by first | omega | (simp; omega))]) | (rw [hD]) | (rw [hk8.block k (by first | omega | (simp; omega)) (by simp)])))
          · go_simp
            try dsimp only
            try simp only [sz3]
            refine hK.out _ _ ?_ ?_
            · intro _; (first | (refine Loc.cell (t := 30) ?_; exact loca) | (refine ⟨Loc.cell (t := 30) ?_, lv_cell ?_ hl5 cl0⟩; (focus (exact loca)); (repeat' (first | exact ⟨hB0.blk⟩ | assumption | (refine Blk.other ?_ _ _ ?_) | (refine Blk.alloc ?_ _) | (refine Blk.drew ?_) | (refine Blk.kp ?_ (by assumption) ?_ ?_) | omega | (simp; done) | (simp; omega)))))
            clear hK K1
            try simp only [Act.put, pz]
            refine wpAnyU_rs (rs := [10]) (by kernel_rfl) (by simp) (AllU.cons rfl rfl (fun K1 hK => ?_) AllU.nil)
            go_simp
            try dsimp only
            try simp only [sz3]
            refine hK.out _ _ ?_ ?_
            · intro _; (first | (refine Loc.cell (t := 30) ?_; exact loca) | (refine ⟨Loc.cell (t := 30) ?_, lv_cell ?_ hl5 cl0⟩; (focus (exact loca)); (repeat' (first | exact ⟨hB0.blk⟩ | assumption | (refine Blk.other ?_ _ _ ?_) | (refine Blk.alloc ?_ _) | (refine Blk.drew ?_) | (refine Blk.kp ?_ (by assumption) ?_ ?_) | omega | (simp; done) | (simp; omega)))))
            clear hK K1
            try simp only [Act.put, pz]
            refine wpAnyU_rs (rs := [11]) (by kernel_rfl) (by simp) (AllU.cons rfl rfl (fun K1 hK => ?_) AllU.nil)
            go_simp
            refine (plain_c _ _ _ _ _ _).mono ?_
            rintro e w8 ⟨rfl, s8, b8, hk8⟩
            have z8 := hk8.size
            try simp at s8
            try simp at z8
            try simp at b8
            have B8 := Blk.mk b8
            have z8' := Nat.le_of_eq s8.symm
            clear s8 b8
            try dsimp only
            try simp only [sz3]
            refine hK.out _ _ ?_ ?_
            · intro _; (first | (refine Loc.cell (t := 30) ?_; exact loca) | (refine ⟨Loc.cell (t := 30) ?_, lv_cell ?_ hl5 cl0⟩; (focus (exact loca)); (repeat' (first | exact ⟨hB0.blk⟩ | assumption | (refine Blk.other ?_ _ _ ?_) | (refine Blk.alloc ?_ _) | (refine Blk.drew ?_) | (refine Blk.kp ?_ (by assumption) ?_ ?_) | omega | (simp; done) | (simp; omega)))))
            clear hK K1
            try simp only [Act.put, pz]
            refine wpAnyU_rs (rs := [13]) (by kernel_rfl) (by simp) (AllU.cons rfl rfl (fun K1 hK => ?_) AllU.nil)
            refine st_node 9 39 rfl _ _ (.pointer none) rfl rfl (loca) ?_
            try dsimp only
            try simp only [sz3]
            refine hK.out _ _ ?_ ?_
            · intro _; (first | (refine Loc.cell (t := 30) ?_; exact loca) | (refine ⟨Loc.cell (t := 30) ?_, lv_cell ?_ hl5 cl0⟩; (focus (exact loca)); (repeat' (first | exact ⟨hB0.blk⟩ | assumption | (refine Blk.other ?_ _ _ ?_) | (refine Blk.alloc ?_ _) | (refine Blk.drew ?_) | (refine Blk.kp ?_ (by assumption) ?_ ?_) | omega | (simp; done) | (simp; omega)))))
            clear hK K1
            try simp only [Act.put, pz]
            refine wpAnyU_done (by kernel_rfl) ?_ _
            refine ⟨_, _, _, _, _, rfl, rda, loca, loca, loca, kpa, bka, bka, ?_, ?_⟩
            · refine ⟨?_, ?_, ?_, ?_, ?_, ?_⟩ <;> first | omega | (simp; omega)
            · refine ⟨IsX.frame (Nat.le_refl _) sza (by intro x hx; simp at hx ⊢; omega) (fun k hk hk' hx => Kp.block (n := w6.heap.size) (S := [br]) ?_ k hk' (by simp; omega)) _ _ MX, IsX.frame ?_ ?_ (by intro x hx; simp at hx ⊢; omega) (fun k hk hk' hx => ?_) _ _ (IsT.isX (ex := []) (Nat.le_refl _) (Nat.le_refl _) (by simp) _ _ hT7), trivial⟩
              · exact kpa
              · exact sza
              · exact sza
              · try simp at hk
                (repeat' (first | rfl | (rw [hS_ne (by first | omega | (simp; omega))]) | (rw [hA_old (by first | omega | (simp; omega))]) | (rw [hD]) | (rw [hk8.block k (by first | omega | (simp; omega)) (by simp)])))
        · go_simp
          try dsimp only
          try simp only [sz3]
          refine hK.out _ _ ?_ ?_
          · intro _; (first | (refine Loc.cell (t := 30) ?_; exact loca) | (refine ⟨Loc.cell (t := 30) ?_, lv_cell ?_ hl5 cl0⟩; (focus (exact loca)); (repeat' (first | exact ⟨hB0.blk⟩ | assumption | (refine Blk.other ?_ _ _ ?_) | (refine Blk.alloc ?_ _) | (refine Blk.drew ?_) | (refine Blk.kp ?_ (by assumption) ?_ ?_) | omega | (simp; done) | (simp; omega)))))
          clear hK K1
          try simp only [Act.put, pz]
          refine wpAnyU_rs (rs := [0, 12]) (by kernel_rfl) (by simp) (AllU.cons rfl rfl (fun K1 hK => ?_) (AllU.cons rfl rfl (fun K1 hK => ?_) AllU.nil))
          · refine lv_build rfl (fun g0 hg0 hg0' hB0 => ?_)
            try simp at hg0
            try simp at hg0'
            try dsimp only
            try simp only [sz3]
            refine hK.out _ _ ?_ ?_
            · intro _; (refine Loc.cell (t := 30) ?_; exact loca)
            clear hK K1
            try simp only [Act.put, pz]
            refine wpAnyU_S (fun W => W.cell? ⟨nv, 0, none⟩ = some (ptrV b) ∧ W.cell? ⟨g0, l, none⟩ = some (.int .i64 (opLevel l))) (fun _ q => q.1) (by refine ⟨Loc.cell (t := 30) ?_, lv_cell hB0 hl5 cl0⟩; exact loca) (fun hS2 => ?_)
            refine tkU 2 (v := ?_) rfl (by kernel_rfl) (fun _ _ _ h => h) (Or.inl ⟨by rfl, ?_⟩) (by assumption) ?_
            rotate_left
            · intro w hSw; (try dsimp only at hSw); go_simp; try with_reducible rfl
            try simp only [Act.put, pz]
            refine tkU 3 (v := ?_) rfl (by kernel_rfl) (fun _ _ _ h => h) (Or.inl ⟨by rfl, ?_⟩) (by assumption) ?_
            rotate_left
            · intro w hSw; (try dsimp only at hSw); go_simp; try with_reducible rfl
            try simp only [Act.put, pz]
            refine wpAnyU_rs (rs := [11, 12]) (by kernel_rfl) (by simp) (AllU.cons rfl rfl (fun K1 hK => ?_) (AllU.cons rfl rfl (fun K1 hK => ?_) AllU.nil))
            · go_simp
              refine (plain_c _ _ _ _ _ _).mono ?_
              rintro e w8 ⟨rfl, s8, b8, hk8⟩
              have z8 := hk8.size
              try simp at s8
              try simp at z8
              try simp at b8
              have B8 := Blk.mk b8
              have z8' := Nat.le_of_eq s8.symm
              clear s8 b8
              try dsimp only
              try simp only [sz3]
              refine hK.out _ _ ?_ ?_
              · intro _; (first | (refine Loc.cell (t := 30) ?_; exact loca) | (refine ⟨Loc.cell (t := 30) ?_, lv_cell ?_ hl5 cl0⟩; (focus (exact loca)); (repeat' (first | exact ⟨hB0.blk⟩ | assumption | (refine Blk.other ?_ _ _ ?_) | (refine Blk.alloc ?_ _) | (refine Blk.drew ?_) | (refine Blk.kp ?_ (by assumption) ?_ ?_) | omega | (simp; done) | (simp; omega)))))
              clear hK K1
              try simp only [Act.put, pz]
              refine wpAnyU_rs (rs := [12]) (by kernel_rfl) (by simp) (AllU.cons rfl rfl (fun K1 hK => ?_) AllU.nil)
              go_simp
              try dsimp only
              try simp only [sz3]
              refine hK.out _ _ ?_ ?_
              · intro _; (first | (refine Loc.cell (t := 30) ?_; exact loca) | (refine ⟨Loc.cell (t := 30) ?_, lv_cell ?_ hl5 cl0⟩; (focus (exact loca)); (repeat' (first | exact ⟨hB0.blk⟩ | assumption | (refine Blk.other ?_ _ _ ?_) | (refine Blk.alloc ?_ _) | (refine Blk.drew ?_) | (refine Blk.kp ?_ (by assumption) ?_ ?_) | omega | (simp; done) | (simp; omega)))))
              clear hK K1
              try simp only [Act.put, pz]
              refine wpAnyU_rs (rs := [13]) (by kernel_rfl) (by simp) (AllU.cons rfl rfl (fun K1 hK => ?_) AllU.nil)
              refine st_node 9 39 rfl _ _ (.pointer none) rfl rfl (loca) ?_
              try dsimp only
              try simp only [sz3]
              refine hK.out _ _ ?_ ?_
              · intro _; (first | (refine Loc.cell (t := 30) ?_; exact loca) | (refine ⟨Loc.cell (t := 30) ?_, lv_cell ?_ hl5 cl0⟩; (focus (exact loca)); (repeat' (first | exact ⟨hB0.blk⟩ | assumption | (refine Blk.other ?_ _ _ ?_) | (refine Blk.alloc ?_ _) | (refine Blk.drew ?_) | (refine Blk.kp ?_ (by assumption) ?_ ?_) | omega | (simp; done) | (simp; omega)))))
              clear hK K1
              try simp only [Act.put, pz]
              refine wpAnyU_done (by kernel_rfl) ?_ _
              refine ⟨_, _, _, _, _, rfl, rda, loca, loca, loca, kpa, bka, bka, ?_, ?_⟩
              · refine ⟨?_, ?_, ?_, ?_, ?_, ?_⟩ <;> first | omega | (simp; omega)
              · refine ⟨IsX.frame (Nat.le_refl _) sza (by intro x hx; simp at hx ⊢; omega) (fun k hk hk' hx => Kp.block (n := w6.heap.size) (S := [br]) ?_ k hk' (by simp; omega)) _ _ MX, IsX.frame ?_ ?_ (by intro x hx; simp at hx ⊢; omega) (fun k hk hk' hx => ?_) _ _ (IsT.isX (ex := []) (Nat.le_refl _) (Nat.le_refl _) (by simp) _ _ hT7), trivial⟩
                · exact kpa
                · exact sza
                · exact sza
                · try simp at hk
                  (repeat' (first | rfl | (rw [hS_ne (by first | omega | (simp; omega))]) | (rw [hA_old (by first | omega | (simp; omega))]) | (rw [hD]) | (rw [hk8.block k (by first | omega | (simp; omega)) (by simp)])))
            · go_simp
              try dsimp only
              try simp only [sz3]
              refine hK.out _ _ ?_ ?_
              · intro _; (first | (refine Loc.cell (t := 30) ?_; exact loca) | (refine ⟨Loc.cell (t := 30) ?_, lv_cell ?_ hl5 cl0⟩; (focus (exact loca)); (repeat' (first | exact ⟨hB0.blk⟩ | assumption | (refine Blk.other ?_ _ _ ?_) | (refine Blk.alloc ?_ _) | (refine Blk.drew ?_) | (refine Blk.kp ?_ (by assumption) ?_ ?_) | omega | (simp; done) | (simp; omega)))))
              clear hK K1
              try simp only [Act.put, pz]
              refine wpAnyU_rs (rs := [11]) (by kernel_rfl) (by simp) (AllU.cons rfl rfl (fun K1 hK => ?_) AllU.nil)
              go_simp
              refine (plain_c _ _ _ _ _ _).mono ?_
              rintro e w8 ⟨rfl, s8, b8, hk8⟩
              have z8 := hk8.size
              try simp at s8
              try simp at z8
              try simp at b8
              have B8 := Blk.mk b8
              have z8' := Nat.le_of_eq s8.symm
              clear s8 b8
              try dsimp only
              try simp only [sz3]
              refine hK.out _ _ ?_ ?_
              · intro _; (first | (refine Loc.cell (t := 30) ?_; exact loca) | (refine ⟨Loc.cell (t := 30) ?_, lv_cell ?_ hl5 cl0⟩; (focus (exact loca)); (repeat' (first | exact ⟨hB0.blk⟩ | assumption | (refine Blk.other ?_ _ _ ?_) | (refine Blk.alloc ?_ _) | (refine Blk.drew ?_) | (refine Blk.kp ?_ (by assumption) ?_ ?_) | omega | (simp; done) | (simp; omega)))))
              clear hK K1
              try simp only [Act.put, pz]
              refine wpAnyU_rs (rs := [13]) (by kernel_rfl) (by simp) (AllU.cons rfl rfl (fun K1 hK => ?_) AllU.nil)
              refine st_node 9 39 rfl _ _ (.pointer none) rfl rfl (loca) ?_
              try dsimp only
              try simp only [sz3]
              refine hK.out _ _ ?_ ?_
              · intro _; (first | (refine Loc.cell (t := 30) ?_; exact loca) | (refine ⟨Loc.cell (t := 30) ?_, lv_cell ?_ hl5 cl0⟩; (focus (exact loca)); (repeat' (first | exact ⟨hB0.blk⟩ | assumption | (refine Blk.other ?_ _ _ ?_) | (refine Blk.alloc ?_ _) | (refine Blk.drew ?_) | (refine Blk.kp ?_ (by assumption) ?_ ?_) | omega | (simp; done) | (simp; omega)))))
              clear hK K1
              try simp only [Act.put, pz]
              refine wpAnyU_done (by kernel_rfl) ?_ _
              refine ⟨_, _, _, _, _, rfl, rda, loca, loca, loca, kpa, bka, bka, ?_, ?_⟩
              · refine ⟨?_, ?_, ?_, ?_, ?_, ?_⟩ <;> first | omega | (simp; omega)
              · refine ⟨IsX.frame (Nat.le_refl _) sza (by intro x hx; simp at hx ⊢; omega) (fun k hk hk' hx => Kp.block (n := w6.heap.size) (S := [br]) ?_ k hk' (by simp; omega)) _ _ MX, IsX.frame ?_ ?_ (by intro x hx; simp at hx ⊢; omega) (fun k hk hk' hx => ?_) _ _ (IsT.isX (ex := []) (Nat.le_refl _) (Nat.le_refl _) (by simp) _ _ hT7), trivial⟩
                · exact kpa
                · exact sza
                · exact sza
                · try simp at hk
                  (repeat' (first | rfl | (rw [hS_ne (by first | omega | (simp; omega))]) | (rw [hA_old (by first | omega | (simp; omega))]) | (rw [hD]) | (rw [hk8.block k (by first | omega | (simp; omega)) (by simp)])))
          · go_simp
            try dsimp only
            try simp only [sz3]
            refine hK.out _ _ ?_ ?_
            · intro _; (first | (refine Loc.cell (t := 30) ?_; exact loca) | (refine ⟨Loc.cell (t := 30) ?_, lv_cell ?_ hl5 cl0⟩; (focus (exact loca)); (repeat' (first | exact ⟨hB0.blk⟩ | assumption | (refine Blk.other ?_ _ _ ?_) | (refine Blk.alloc ?_ _) | (refine Blk.drew ?_) | (refine Blk.kp ?_ (by assumption) ?_ ?_) | omega | (simp; done) | (simp; omega)))))
            clear hK K1
            try simp only [Act.put, pz]
            refine wpAnyU_rs (rs := [0]) (by kernel_rfl) (by simp) (AllU.cons rfl rfl (fun K1 hK => ?_) AllU.nil)
            refine lv_build rfl (fun g0 hg0 hg0' hB0 => ?_)
            try simp at hg0
            try simp at hg0'
            try dsimp only
            try simp only [sz3]
            refine hK.out _ _ ?_ ?_
            · intro _; (refine Loc.cell (t := 30) ?_; exact loca)
            clear hK K1
            try simp only [Act.put, pz]
            refine wpAnyU_S (fun W => W.cell? ⟨nv, 0, none⟩ = some (ptrV b) ∧ W.cell? ⟨g0, l, none⟩ = some (.int .i64 (opLevel l))) (fun _ q => q.1) (by refine ⟨Loc.cell (t := 30) ?_, lv_cell hB0 hl5 cl0⟩; exact loca) (fun hS2 => ?_)
            refine tkU 2 (v := ?_) rfl (by kernel_rfl) (fun _ _ _ h => h) (Or.inl ⟨by rfl, ?_⟩) (by assumption) ?_
            rotate_left
            · intro w hSw; (try dsimp only at hSw); go_simp; try with_reducible rfl
            try simp only [Act.put, pz]
            refine tkU 3 (v := ?_) rfl (by kernel_rfl) (fun _ _ _ h => h) (Or.inl ⟨by rfl, ?_⟩) (by assumption) ?_
            rotate_left
            · intro w hSw; (try dsimp only at hSw); go_simp; try with_reducible rfl
            try simp only [Act.put, pz]
            refine wpAnyU_rs (rs := [11]) (by kernel_rfl) (by simp) (AllU.cons rfl rfl (fun K1 hK => ?_) AllU.nil)
            go_simp
            refine (plain_c _ _ _ _ _ _).mono ?_
            rintro e w8 ⟨rfl, s8, b8, hk8⟩
            have z8 := hk8.size
            try simp at s8
            try simp at z8
            try simp at b8
            have B8 := Blk.mk b8
            have z8' := Nat.le_of_eq s8.symm
            clear s8 b8
            try dsimp only
            try simp only [sz3]
            refine hK.out _ _ ?_ ?_
            · intro _; (first | (refine Loc.cell (t := 30) ?_; exact loca) | (refine ⟨Loc.cell (t := 30) ?_, lv_cell ?_ hl5 cl0⟩; (focus (exact loca)); (repeat' (first | exact ⟨hB0.blk⟩ | assumption | (refine Blk.other ?_ _ _ ?_) | (refine Blk.alloc ?_ _) | (refine Blk.drew ?_) | (refine Blk.kp ?_ (by assumption) ?_ ?_) | omega | (simp; done) | (simp; omega)))))
            clear hK K1
            try simp only [Act.put, pz]
            refine wpAnyU_rs (rs := [13]) (by kernel_rfl) (by simp) (AllU.cons rfl rfl (fun K1 hK => ?_) AllU.nil)
            refine st_node 9 39 rfl _ _ (.pointer none) rfl rfl (loca) ?_
            try dsimp only
            try simp only [sz3]
            refine hK.out _ _ ?_ ?_
            · intro _; (first | (refine Loc.cell (t := 30) ?_; exact loca) | (refine ⟨Loc.cell (t := 30) ?_, lv_cell ?_ hl5 cl0⟩; (focus (exact loca)); (repeat' (first | exact ⟨hB0.blk⟩ | assumption | (refine Blk.other ?_ _ _ ?_) | (refine Blk.alloc ?_ _) | (refine Blk.drew ?_) | (refine Blk.kp ?_ (by assumption) ?_ ?_) | omega | (simp; done) | (simp; omega)))))
            clear hK K1
            try simp only [Act.put, pz]
            refine wpAnyU_done (by kernel_rfl) ?_ _
            refine ⟨_, _, _, _, _, rfl, rda, loca, loca, loca, kpa, bka, bka, ?_, ?_⟩
            · refine ⟨?_, ?_, ?_, ?_, ?_, ?_⟩ <;> first | omega | (simp; omega)
            · refine ⟨IsX.frame (Nat.le_refl _) sza (by intro x hx; simp at hx ⊢; omega) (fun k hk hk' hx => Kp.block (n := w6.heap.size) (S := [br]) ?_ k hk' (by simp; omega)) _ _ MX, IsX.frame ?_ ?_ (by intro x hx; simp at hx ⊢; omega) (fun k hk hk' hx => ?_) _ _ (IsT.isX (ex := []) (Nat.le_refl _) (Nat.le_refl _) (by simp) _ _ hT7), trivial⟩
              · exact kpa
              · exact sza
              · exact sza
              · try simp at hk
                (repeat' (first | rfl | (rw [hS_ne (by first | omega | (simp; omega))]) | (rw [hA_old (by first | omega | (simp; omega))]) | (rw [hD]) | (rw [hk8.block k (by first | omega | (simp; omega)) (by simp)])))
        · go_simp
          try dsimp only
          try simp only [sz3]
          refine hK.out _ _ ?_ ?_
          · intro _; (first | (refine Loc.cell (t := 30) ?_; exact loca) | (refine ⟨Loc.cell (t := 30) ?_, lv_cell ?_ hl5 cl0⟩; (focus (exact loca)); (repeat' (first | exact ⟨hB0.blk⟩ | assumption | (refine Blk.other ?_ _ _ ?_) | (refine Blk.alloc ?_ _) | (refine Blk.drew ?_) | (refine Blk.kp ?_ (by assumption) ?_ ?_) | omega | (simp; done) | (simp; omega)))))
          clear hK K1
          try simp only [Act.put, pz]
          refine wpAnyU_rs (rs := [0, 10]) (by kernel_rfl) (by simp) (AllU.cons rfl rfl (fun K1 hK => ?_) (AllU.cons rfl rfl (fun K1 hK => ?_) AllU.nil))
          · refine lv_build rfl (fun g0 hg0 hg0' hB0 => ?_)
            try simp at hg0
            try simp at hg0'
            try dsimp only
            try simp only [sz3]
            refine hK.out _ _ ?_ ?_
            · intro _; (refine Loc.cell (t := 30) ?_; exact loca)
            clear hK K1
            try simp only [Act.put, pz]
            refine wpAnyU_S (fun W => W.cell? ⟨nv, 0, none⟩ = some (ptrV b) ∧ W.cell? ⟨g0, l, none⟩ = some (.int .i64 (opLevel l))) (fun _ q => q.1) (by refine ⟨Loc.cell (t := 30) ?_, lv_cell hB0 hl5 cl0⟩; exact loca) (fun hS2 => ?_)
            refine tkU 2 (v := ?_) rfl (by kernel_rfl) (fun _ _ _ h => h) (Or.inl ⟨by rfl, ?_⟩) (by assumption) ?_
            rotate_left
            · intro w hSw; (try dsimp only at hSw); go_simp; try with_reducible rfl
            try simp only [Act.put, pz]
            refine tkU 3 (v := ?_) rfl (by kernel_rfl) (fun _ _ _ h => h) (Or.inl ⟨by rfl, ?_⟩) (by assumption) ?_
            rotate_left
            · intro w hSw; (try dsimp only at hSw); go_simp; try with_reducible rfl
            try simp only [Act.put, pz]
            refine wpAnyU_rs (rs := [10]) (by kernel_rfl) (by simp) (AllU.cons rfl rfl (fun K1 hK => ?_) AllU.nil)
            go_simp
            try dsimp only
            try simp only [sz3]
            refine hK.out _ _ ?_ ?_
            · intro _; (first | (refine Loc.cell (t := 30) ?_; exact loca) | (refine ⟨Loc.cell (t := 30) ?_, lv_cell ?_ hl5 cl0⟩; (focus (exact loca)); (repeat' (first | exact ⟨hB0.blk⟩ | assumption | (refine Blk.other ?_ _ _ ?_) | (refine Blk.alloc ?_ _) | (refine Blk.drew ?_) | (refine Blk.kp ?_ (by assumption) ?_ ?_) | omega | (simp; done) | (simp; omega)))))
            clear hK K1
            try simp only [Act.put, pz]
            refine wpAnyU_rs (rs := [11]) (by kernel_rfl) (by simp) (AllU.cons rfl rfl (fun K1 hK => ?_) AllU.nil)
            go_simp
            refine (plain_c _ _ _ _ _ _).mono ?_
            rintro e w8 ⟨rfl, s8, b8, hk8⟩
            have z8 := hk8.size
            try simp at s8
            try simp at z8
            try simp at b8
            have B8 := Blk.mk b8
            have z8' := Nat.le_of_eq s8.symm
            clear s8 b8
            try dsimp only
            try simp only [sz3]
            refine hK.out _ _ ?_ ?_
            · intro _; (first | (refine Loc.cell (t := 30) ?_; exact loca) | (refine ⟨Loc.cell (t := 30) ?_, lv_cell ?_ hl5 cl0⟩; (focus (exact loca)); (repeat' (first | exact ⟨hB0.blk⟩ | assumption | (refine Blk.other ?_ _ _ ?_) | (refine Blk.alloc ?_ _) | (refine Blk.drew ?_) | (refine Blk.kp ?_ (by assumption) ?_ ?_) | omega | (simp; done) | (simp; omega)))))
            clear hK K1
            try simp only [Act.put, pz]
            refine wpAnyU_rs (rs := [13]) (by kernel_rfl) (by simp) (AllU.cons rfl rfl (fun K1 hK => ?_) AllU.nil)
            refine st_node 9 39 rfl _ _ (.pointer none) rfl rfl (loca) ?_
            try dsimp only
            try simp only [sz3]
            refine hK.out _ _ ?_ ?_
            · intro _; (first | (refine Loc.cell (t := 30) ?_; exact loca) | (refine ⟨Loc.cell (t := 30) ?_, lv_cell ?_ hl5 cl0⟩; (focus (exact loca)); (repeat' (first | exact ⟨hB0.blk⟩ | assumption | (refine Blk.other ?_ _ _ ?_) | (refine Blk.alloc ?_ _) | (refine Blk.drew ?_) | (refine Blk.kp ?_ (by assumption) ?_ ?_) | omega | (simp; done) | (simp; omega)))))
            clear hK K1
            try simp only [Act.put, pz]
            refine wpAnyU_done (by kernel_rfl) ?_ _
            refine ⟨_, _, _, _, _, rfl, rda, loca, loca, loca, kpa, bka, bka, ?_, ?_⟩
            · refine ⟨?_, ?_, ?_, ?_, ?_, ?_⟩ <;> first | omega | (simp; omega)
            · refine ⟨IsX.frame (Nat.le_refl _) sza (by intro x hx; simp at hx ⊢; omega) (fun k hk hk' hx => Kp.block (n := w6.heap.size) (S := [br]) ?_ k hk' (by simp; omega)) _ _ MX, IsX.frame ?_ ?_ (by intro x hx; simp at hx ⊢; omega) (fun k hk hk' hx => ?_) _ _ (IsT.isX (ex := []) (Nat.le_refl _) (Nat.le_refl _) (by simp) _ _ hT7), trivial⟩
              · exact kpa
              · exact sza
              · exact sza
              · try simp at hk
                (repeat' (first | rfl | (rw [hS_ne (by first | omega | (simp; omega))]) | (rw [hA_old (by first | omega | (simp; omega))]) | (rw [hD]) | (rw [hk8.block k (by first | omega | (simp; omega)) (by simp)])))
          · go_simp
            try dsimp only
            try simp only [sz3]
            refine hK.out _ _ ?_ ?_
            · intro _; (first | (refine Loc.cell (t := 30) ?_; exact loca) | (refine ⟨Loc.cell (t := 30) ?_, lv_cell ?_ hl5 cl0⟩; (focus (exact loca)); (repeat' (first | exact ⟨hB0.blk⟩ | assumption | (refine Blk.other ?_ _ _ ?_) | (refine Blk.alloc ?_ _) | (refine Blk.drew ?_) | (refine Blk.kp ?_ (by assumption) ?_ ?_) | omega | (simp; done) | (simp; omega)))))
            clear hK K1
            try simp only [Act.put, pz]
            refine wpAnyU_rs (rs := [0]) (by kernel_rfl) (by simp) (AllU.cons rfl rfl (fun K1 hK => ?_) AllU.nil)
            refine lv_build rfl (fun g0 hg0 hg0' hB0 => ?_)
            try simp at hg0
            try simp at hg0'
            try dsimp only
            try simp only [sz3]
            refine hK.out _ _ ?_ ?_
            · intro _; (refine Loc.cell (t := 30) ?_; exact loca)
            clear hK K1
            try simp only [Act.put, pz]
            refine wpAnyU_S (fun W => W.cell? ⟨nv, 0, none⟩ = some (ptrV b) ∧ W.cell? ⟨g0, l, none⟩ = some (.int .i64 (opLevel l))) (fun _ q => q.1) (by refine ⟨Loc.cell (t := 30) ?_, lv_cell hB0 hl5 cl0⟩; exact loca) (fun hS2 => ?_)
            refine tkU 2 (v := ?_) rfl (by kernel_rfl) (fun _ _ _ h => h) (Or.inl ⟨by rfl, ?_⟩) (by assumption) ?_
            rotate_left
            · intro w hSw; (try dsimp only at hSw); go_simp; try with_reducible rfl
            try simp only [Act.put, pz]
            refine tkU 3 (v := ?_) rfl (by kernel_rfl) (fun _ _ _ h => h) (Or.inl ⟨by rfl, ?_⟩) (by assumption) ?_
            rotate_left
            · intro w hSw; (try dsimp only at hSw); go_simp; try with_reducible rfl
            try simp only [Act.put, pz]
            refine wpAnyU_rs (rs := [11]) (by kernel_rfl) (by simp) (AllU.cons rfl rfl (fun K1 hK => ?_) AllU.nil)
            go_simp
            refine (plain_c _ _ _ _ _ _).mono ?_
            rintro e w8 ⟨rfl, s8, b8, hk8⟩
            have z8 := hk8.size
            try simp at s8
            try simp at z8
            try simp at b8
            have B8 := Blk.mk b8
            have z8' := Nat.le_of_eq s8.symm
            clear s8 b8
            try dsimp only
            try simp only [sz3]
            refine hK.out _ _ ?_ ?_
            · intro _; (first | (refine Loc.cell (t := 30) ?_; exact loca) | (refine ⟨Loc.cell (t := 30) ?_, lv_cell ?_ hl5 cl0⟩; (focus (exact loca)); (repeat' (first | exact ⟨hB0.blk⟩ | assumption | (refine Blk.other ?_ _ _ ?_) | (refine Blk.alloc ?_ _) | (refine Blk.drew ?_) | (refine Blk.kp ?_ (by assumption) ?_ ?_) | omega | (simp; done) | (simp; omega)))))
            clear hK K1
            try simp only [Act.put, pz]
            refine wpAnyU_rs (rs := [13]) (by kernel_rfl) (by simp) (AllU.cons rfl rfl (fun K1 hK => ?_) AllU.nil)
            refine st_node 9 39 rfl _ _ (.pointer none) rfl rfl (loca) ?_
            try dsimp only
            try simp only [sz3]
            refine hK.out _ _ ?_ ?_
            · intro _; (first | (refine Loc.cell (t := 30) ?_; exact loca) | (refine ⟨Loc.cell (t := 30) ?_, lv_cell ?_ hl5 cl0⟩; (focus (exact loca)); (repeat' (first | exact ⟨hB0.blk⟩ | assumption | (refine Blk.other ?_ _ _ ?_) | (refine Blk.alloc ?_ _) | (refine Blk.drew ?_) | (refine Blk.kp ?_ (by assumption) ?_ ?_) | omega | (simp; done) | (simp; omega)))))
            clear hK K1
            try simp only [Act.put, pz]
            refine wpAnyU_done (by kernel_rfl) ?_ _
            refine ⟨_, _, _, _, _, rfl, rda, loca, loca, loca, kpa, bka, bka, ?_, ?_⟩
            · refine ⟨?_, ?_, ?_, ?_, ?_, ?_⟩ <;> first | omega | (simp; omega)
            · refine ⟨IsX.frame (Nat.le_refl _) sza (by intro x hx; simp at hx ⊢; omega) (fun k hk hk' hx => Kp.block (n := w6.heap.size) (S := [br]) ?_ k hk' (by simp; omega)) _ _ MX, IsX.frame ?_ ?_ (by intro x hx; simp at hx ⊢; omega) (fun k hk hk' hx => ?_) _ _ (IsT.isX (ex := []) (Nat.le_refl _) (Nat.le_refl _) (by simp) _ _ hT7), trivial⟩
              · exact kpa
              · exact sza
              · exact sza
              · try simp at hk
                (repeat' (first | rfl | (rw [hS_ne (by first | omega | (simp; omega))]) | (rw [hA_old (by first | omega | (simp; omega))]) | (rw [hD]) | (rw [hk8.block k (by first | omega | (simp; omega)) (by simp)])))
      · go_simp
        try dsimp only
        try simp only [sz3]
        refine hK.out _ _ ?_ ?_
        · intro _; (first | (refine Loc.cell (t := 30) ?_; exact loca) | (refine ⟨Loc.cell (t := 30) ?_, lv_cell ?_ hl5 cl0⟩; (focus (exact loca)); (repeat' (first | exact ⟨hB0.blk⟩ | assumption | (refine Blk.other ?_ _ _ ?_) | (refine Blk.alloc ?_ _) | (refine Blk.drew ?_) | (refine Blk.kp ?_ (by assumption) ?_ ?_) | omega | (simp; done) | (simp; omega)))))
        clear hK K1
        try simp only [Act.put, pz]
        refine wpAnyU_rs (rs := [0, 9]) (by kernel_rfl) (by simp) (AllU.cons rfl rfl (fun K1 hK => ?_) (AllU.cons rfl rfl (fun K1 hK => ?_) AllU.nil))
        · refine lv_build rfl (fun g0 hg0 hg0' hB0 => ?_)
          try simp at hg0
          try simp at hg0'
          try dsimp only
          try simp only [sz3]
          refine hK.out _ _ ?_ ?_
          · intro _; (refine Loc.cell (t := 30) ?_; exact loca)
          clear hK K1
          try simp only [Act.put, pz]
          refine wpAnyU_S (fun W => W.cell? ⟨nv, 0, none⟩ = some (ptrV b) ∧ W.cell? ⟨g0, l, none⟩ = some (.int .i64 (opLevel l))) (fun _ q => q.1) (by refine ⟨Loc.cell (t := 30) ?_, lv_cell hB0 hl5 cl0⟩; exact loca) (fun hS2 => ?_)
          refine tkU 2 (v := ?_) rfl (by kernel_rfl) (fun _ _ _ h => h) (Or.inl ⟨by rfl, ?_⟩) (by assumption) ?_
          rotate_left
          · intro w hSw; (try dsimp only at hSw); go_simp; try with_reducible rfl
          try simp only [Act.put, pz]
          refine tkU 3 (v := ?_) rfl (by kernel_rfl) (fun _ _ _ h => h) (Or.inl ⟨by rfl, ?_⟩) (by assumption) ?_
          rotate_left
          · intro w hSw; (try dsimp only at hSw); go_simp; try with_reducible rfl
          try simp only [Act.put, pz]
          refine wpAnyU_rs (rs := [9]) (by kernel_rfl) (by simp) (AllU.cons rfl rfl (fun K1 hK => ?_) AllU.nil)
          go_simp
          refine (HE _ (rda)).mono ?_
          rintro e w7 ⟨b7, rfl, hT7, hr7, hk7⟩
          have z7 := hk7.size
          try simp at z7
          try dsimp only
          try simp only [sz3]
          refine hK.out _ _ ?_ ?_
          · intro _; (first | (refine Loc.cell (t := 30) ?_; exact loca) | (refine ⟨Loc.cell (t := 30) ?_, lv_cell ?_ hl5 cl0⟩; (focus (exact loca)); (repeat' (first | exact ⟨hB0.blk⟩ | assumption | (refine Blk.other ?_ _ _ ?_) | (refine Blk.alloc ?_ _) | (refine Blk.drew ?_) | (refine Blk.kp ?_ (by assumption) ?_ ?_) | omega | (simp; done) | (simp; omega)))))
          clear hK K1
          try simp only [Act.put, pz]
          refine wpAnyU_rs (rs := [10]) (by kernel_rfl) (by simp) (AllU.cons rfl rfl (fun K1 hK => ?_) AllU.nil)
          go_simp
          try dsimp only
          try simp only [sz3]
          refine hK.out _ _ ?_ ?_
          · intro _; (first | (refine Loc.cell (t := 30) ?_; exact loca) | (refine ⟨Loc.cell (t := 30) ?_, lv_cell ?_ hl5 cl0⟩; (focus (exact loca)); (repeat' (first | exact ⟨hB0.blk⟩ | assumption | (refine Blk.other ?_ _ _ ?_) | (refine Blk.alloc ?_ _) | (refine Blk.drew ?_) | (refine Blk.kp ?_ (by assumption) ?_ ?_) | omega | (simp; done) | (simp; omega)))))
          clear hK K1
          try simp only [Act.put, pz]
          refine wpAnyU_rs (rs := [11]) (by kernel_rfl) (by simp) (AllU.cons rfl rfl (fun K1 hK => ?_) AllU.nil)
          go_simp
          refine (plain_c _ _ _ _ _ _).mono ?_
          rintro e w8 ⟨rfl, s8, b8, hk8⟩
          have z8 := hk8.size
          try simp at s8
          try simp at z8
          try simp at b8
          have B8 := Blk.mk b8
          have z8' := Nat.le_of_eq s8.symm
          clear s8 b8
          try dsimp only
          try simp only [sz3]
          refine hK.out _ _ ?_ ?_
          · intro _; (first | (refine Loc.cell (t := 30) ?_; exact loca) | (refine ⟨Loc.cell (t := 30) ?_, lv_cell ?_ hl5 cl0⟩; (focus (exact loca)); (repeat' (first | exact ⟨hB0.blk⟩ | assumption | (refine Blk.other ?_ _ _ ?_) | (refine Blk.alloc ?_ _) | (refine Blk.drew ?_) | (refine Blk.kp ?_ (by assumption) ?_ ?_) | omega | (simp; done) | (simp; omega)))))
          clear hK K1
          try simp only [Act.put, pz]
          refine wpAnyU_rs (rs := [13]) (by kernel_rfl) (by simp) (AllU.cons rfl rfl (fun K1 hK => ?_) AllU.nil)
          refine st_node 9 39 rfl _ _ (.pointer none) rfl rfl (loca) ?_
          try dsimp only
          try simp only [sz3]
          refine hK.out _ _ ?_ ?_
          · intro _; (first | (refine Loc.cell (t := 30) ?_; exact loca) | (refine ⟨Loc.cell (t := 30) ?_, lv_cell ?_ hl5 cl0⟩; (focus (exact loca)); (repeat' (first | exact ⟨hB0.blk⟩ | assumption | (refine Blk.other ?_ _ _ ?_) | (refine Blk.alloc ?_ _) | (refine Blk.drew ?_) | (refine Blk.kp ?_ (by assumption) ?_ ?_) | omega | (simp; done) | (simp; omega)))))
          clear hK K1
          try simp only [Act.put, pz]
          refine wpAnyU_done (by kernel_rfl) ?_ _
          refine ⟨_, _, _, _, _, rfl, rda, loca, loca, loca, kpa, bka, bka, ?_, ?_⟩
          · refine ⟨?_, ?_, ?_, ?_, ?_, ?_⟩ <;> first | omega | (simp; omega)
          · refine ⟨IsX.frame (Nat.le_refl _) sza (by intro x hx; simp at hx ⊢; omega) (fun k hk hk' hx => Kp.block (n := w6.heap.size) (S := [br]) ?_ k hk' (by simp; omega)) _ _ MX, IsX.frame ?_ ?_ (by intro x hx; simp at hx ⊢; omega) (fun k hk hk' hx => ?_) _ _ (IsT.isX (ex := []) (Nat.le_refl _) (Nat.le_refl _) (by simp) _ _ hT7), trivial⟩
            · exact kpa
            · exact sza
            · exact sza
            · try simp at hk
              (repeat' (first | rfl | (rw [hS_ne (by first | omega | (simp; omega))]) | (rw [hA_old (by first | omega | (simp; omega))]) | (rw [hD]) | (rw [hk8.block k (by first | omega | (simp; omega)) (by simp)])))
        · go_simp
          refine (HE _ (rda)).mono ?_
          rintro e w7 ⟨b7, rfl, hT7, hr7, hk7⟩
          have z7 := hk7.size
          try simp at z7
          try dsimp only
          try simp only [sz3]
          refine hK.out _ _ ?_ ?_
          · intro _; (first | (refine Loc.cell (t := 30) ?_; exact loca) | (refine ⟨Loc.cell (t := 30) ?_, lv_cell ?_ hl5 cl0⟩; (focus (exact loca)); (repeat' (first | exact ⟨hB0.blk⟩ | assumption | (refine Blk.other ?_ _ _ ?_) | (refine Blk.alloc ?_ _) | (refine Blk.drew ?_) | (refine Blk.kp ?_ (by assumption) ?_ ?_) | omega | (simp; done) | (simp; omega)))))
          clear hK K1
          try simp only [Act.put, pz]
          refine wpAnyU_rs (rs := [0, 10]) (by kernel_rfl) (by simp) (AllU.cons rfl rfl (fun K1 hK => ?_) (AllU.cons rfl rfl (fun K1 hK => ?_) AllU.nil))
          · refine lv_build rfl (fun g0 hg0 hg0' hB0 => ?_)
            try simp at hg0
            try simp at hg0'
            try dsimp only
            try simp only [sz3]
            refine hK.out _ _ ?_ ?_
            · intro _; (refine Loc.cell (t := 30) ?_; exact loca)
            clear hK K1
            try simp only [Act.put, pz]
            refine wpAnyU_S (fun W => W.cell? ⟨nv, 0, none⟩ = some (ptrV b) ∧ W.cell? ⟨g0, l, none⟩ = some (.int .i64 (opLevel l))) (fun _ q => q.1) (by refine ⟨Loc.cell (t := 30) ?_, lv_cell hB0 hl5 cl0⟩; exact loca) (fun hS2 => ?_)
            refine tkU 2 (v := ?_) rfl (by kernel_rfl) (fun _ _ _ h => h) (Or.inl ⟨by rfl, ?_⟩) (by assumption) ?_
            rotate_left
            · intro w hSw; (try dsimp only at hSw); go_simp; try with_reducible rfl
            try simp only [Act.put, pz]
            refine tkU 3 (v := ?_) rfl (by kernel_rfl) (fun _ _ _ h => h) (Or.inl ⟨by rfl, ?_⟩) (by assumption) ?_
            rotate_left
            · intro w hSw; (try dsimp only at hSw); go_simp; try with_reducible rfl
            try simp only [Act.put, pz]
            refine wpAnyU_rs (rs := [10]) (by kernel_rfl) (by simp) (AllU.cons rfl rfl (fun K1 hK => ?_) AllU.nil)
            go_simp
            try dsimp only
            try simp only [sz3]
            refine hK.out _ _ ?_ ?_
            · intro _; (first | (refine Loc.cell (t := 30) ?_; exact loca) | (refine ⟨Loc.cell (t := 30) ?_, lv_cell ?_ hl5 cl0⟩; (focus (exact loca)); (repeat' (first | exact ⟨hB0.blk⟩ | assumption | (refine Blk.other ?_ _ _ ?_) | (refine Blk.alloc ?_ _) | (refine Blk.drew ?_) | (refine Blk.kp ?_ (by assumption) ?_ ?_) | omega | (simp; done) | (simp; omega)))))
            clear hK K1
            try simp only [Act.put, pz]
            refine wpAnyU_rs (rs := [11]) (by kernel_rfl) (by simp) (AllU.cons rfl rfl (fun K1 hK => ?_) AllU.nil)
            go_simp
            refine (plain_c _ _ _ _ _ _).mono ?_
            rintro e w8 ⟨rfl, s8, b8, hk8⟩
            have z8 := hk8.size
            try simp at s8
            try simp at z8
            try simp at b8
            have B8 := Blk.mk b8
            have z8' := Nat.le_of_eq s8.symm
            clear s8 b8
            try dsimp only
            try simp only [sz3]
            refine hK.out _ _ ?_ ?_
            · intro _; (first | (refine Loc.cell (t := 30) ?_; exact loca) | (refine ⟨Loc.cell (t := 30) ?_, lv_cell ?_ hl5 cl0⟩; (focus (exact loca)); (repeat' (first | exact ⟨hB0.blk⟩ | assumption | (refine Blk.other ?_ _ _ ?_) | (refine Blk.alloc ?_ _) | (refine Blk.drew ?_) | (refine Blk.kp ?_ (by assumption) ?_ ?_) | omega | (simp; done) | (simp; omega)))))
            clear hK K1
            try simp only [Act.put, pz]
            refine wpAnyU_rs (rs := [13]) (by kernel_rfl) (by simp) (AllU.cons rfl rfl (fun K1 hK => ?_) AllU.nil)
            refine st_node 9 39 rfl _ _ (.pointer none) rfl rfl (loca) ?_
            try dsimp only
            try simp only [sz3]
            refine hK.out _ _ ?_ ?_
            · intro _; (first | (refine Loc.cell (t := 30) ?_; exact loca) | (refine ⟨Loc.cell (t := 30) ?_, lv_cell ?_ hl5 cl0⟩; (focus (exact loca)); (repeat' (first | exact ⟨hB0.blk⟩ | assumption | (refine Blk.other ?_ _ _ ?_) | (refine Blk.alloc ?_ _) | (refine Blk.drew ?_) | (refine Blk.kp ?_ (by assumption) ?_ ?_) | omega | (simp; done) | (simp; omega)))))
            clear hK K1
            try simp only [Act.put, pz]
            refine wpAnyU_done (by kernel_rfl) ?_ _
            refine ⟨_, _, _, _, _, rfl, rda, loca, loca, loca, kpa, bka, bka, ?_, ?_⟩
            · refine ⟨?_, ?_, ?_, ?_, ?_, ?_⟩ <;> first | omega | (simp; omega)
            · refine ⟨IsX.frame (Nat.le_refl _) sza (by intro x hx; simp at hx ⊢; omega) (fun k hk hk' hx => Kp.block (n := w6.heap.size) (S := [br]) ?_ k hk' (by simp; omega)) _ _ MX, IsX.frame ?_ ?_ (by intro x hx; simp at hx ⊢; omega) (fun k hk hk' hx => ?_) _ _ (IsT.isX (ex := []) (Nat.le_refl _) (Nat.le_refl _) (by simp) _ _ hT7), trivial⟩
              · exact kpa
              · exact sza
              · exact sza
              · try simp at hk
                (repeat' (first | rfl | (rw [hS_ne (by first | omega | (simp; omega))]) | (rw [hA_old (by first | omega | (simp; omega))]) | (rw [hD]) | (rw [hk8.block k (by first | omega | (simp; omega)) (by simp)])))
          · go_simp
            try dsimp only
            try simp only [sz3]
            refine hK.out _ _ ?_ ?_
            · intro _; (first | (refine Loc.cell (t := 30) ?_; exact loca) | (refine ⟨Loc.cell (t := 30) ?_, lv_cell ?_ hl5 cl0⟩; (focus (exact loca)); (repeat' (first | exact ⟨hB0.blk⟩ | assumption | (refine Blk.other ?_ _ _ ?_) | (refine Blk.alloc ?_ _) | (refine Blk.drew ?_) | (refine Blk.kp ?_ (by assumption) ?_ ?_) | omega | (simp; done) | (simp; omega)))))
            clear hK K1
            try simp only [Act.put, pz]
            refine wpAnyU_rs (rs := [0]) (by kernel_rfl) (by simp) (AllU.cons rfl rfl (fun K1 hK => ?_) AllU.nil)
            refine lv_build rfl (fun g0 hg0 hg0' hB0 => ?_)
            try simp at hg0
            try simp at hg0'
            try dsimp only
            try simp only [sz3]
            refine hK.out _ _ ?_ ?_
            · intro _; (refine Loc.cell (t := 30) ?_; exact loca)
            clear hK K1
            try simp only [Act.put, pz]
            refine wpAnyU_S (fun W => W.cell? ⟨nv, 0, none⟩ = some (ptrV b) ∧ W.cell? ⟨g0, l, none⟩ = some (.int .i64 (opLevel l))) (fun _ q => q.1) (by refine ⟨Loc.cell (t := 30) ?_, lv_cell hB0 hl5 cl0⟩; exact loca) (fun hS2 => ?_)
            refine tkU 2 (v := ?_) rfl (by kernel_rfl) (fun _ _ _ h => h) (Or.inl ⟨by rfl, ?_⟩) (by assumption) ?_
            rotate_left
            · intro w hSw; (try dsimp only at hSw); go_simp; try with_reducible rfl
            try simp only [Act.put, pz]
            refine tkU 3 (v := ?_) rfl (by kernel_rfl) (fun _ _ _ h => h) (Or.inl ⟨by rfl, ?_⟩) (by assumption) ?_
            rotate_left
            · intro w hSw; (try dsimp only at hSw); go_simp; try with_reducible rfl
            try simp only [Act.put, pz]
            refine wpAnyU_rs (rs := [11]) (by kernel_rfl) (by simp) (AllU.cons rfl rfl (fun K1 hK => ?_) AllU.nil)
            go_simp
            refine (plain_c _ _ _ _ _ _).mono ?_
            rintro e w8 ⟨rfl, s8, b8, hk8⟩
            have z8 := hk8.size
            try simp at s8
            try simp at z8
            try simp at b8
            have B8 := Blk.mk b8
            have z8' := Nat.le_of_eq s8.symm
            clear s8 b8
            try dsimp only
            try simp only [sz3]
            refine hK.out _ _ ?_ ?_
            · intro _; (first | (refine Loc.cell (t := 30) ?_; exact loca) | (refine ⟨Loc.cell (t := 30) ?_, lv_cell ?_ hl5 cl0⟩; (focus (exact loca)); (repeat' (first | exact ⟨hB0.blk⟩ | assumption | (refine Blk.other ?_ _ _ ?_) | (refine Blk.alloc ?_ _) | (refine Blk.drew ?_) | (refine Blk.kp ?_ (by assumption) ?_ ?_) | omega | (simp; done) | (simp; omega)))))
            clear hK K1
            try simp only [Act.put, pz]
            refine wpAnyU_rs (rs := [13]) (by kernel_rfl) (by simp) (AllU.cons rfl rfl (fun K1 hK => ?_) AllU.nil)
            refine st_node 9 39 rfl _ _ (.pointer none) rfl rfl (loca) ?_
            try dsimp only
            try simp only [sz3]
            refine hK.out _ _ ?_ ?_
            · intro _; (first | (refine Loc.cell (t := 30) ?_; exact loca) | (refine ⟨Loc.cell (t := 30) ?_, lv_cell ?_ hl5 cl0⟩; (focus (exact loca)); (repeat' (first | exact ⟨hB0.blk⟩ | assumption | (refine Blk.other ?_ _ _ ?_) | (refine Blk.alloc ?_ _) | (refine Blk.drew ?_) | (refine Blk.kp ?_ (by assumption) ?_ ?_) | omega | (simp; done) | (simp; omega)))))
            clear hK K1
            try simp only [Act.put, pz]
            refine wpAnyU_done (by kernel_rfl) ?_ _
            refine ⟨_, _, _, _, _, rfl, rda, loca, loca, loca, kpa, bka, bka, ?_, ?_⟩
            · refine ⟨?_, ?_, ?_, ?_, ?_, ?_⟩ <;> first | omega | (simp; omega)
            · refine ⟨IsX.frame (Nat.le_refl _) sza (by intro x hx; simp at hx ⊢; omega) (fun k hk hk' hx => Kp.block (n := w6.heap.size) (S := [br]) ?_ k hk' (by simp; omega)) _ _ MX, IsX.frame ?_ ?_ (by intro x hx; simp at hx ⊢; omega) (fun k hk hk' hx => ?_) _ _ (IsT.isX (ex := []) (Nat.le_refl _) (Nat.le_refl _) (by simp) _ _ hT7), trivial⟩
              · exact kpa
              · exact sza
              · exact sza
              · try simp at hk
                (repeat' (first | rfl | (rw [hS_ne (by first | omega | (simp; omega))]) | (rw [hA_old (by first | omega | (simp; omega))]) | (rw [hD]) | (rw [hk8.block k (by first | omega | (simp; omega)) (by simp)])))

end Go.Proofs.YtbplaekabeggkaaGreatDoor
