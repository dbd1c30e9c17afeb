/- PROVED: the law ParseBlanks of layer 4 answers true for every string, as its given card says (the listed package variables as the program lays them); no other condition. The parser, the lexer and the writer of the awake test are walked whole. Text 11 of 16. -/
import Derived.Test.YtbplaekabeggkaaGreatDoorG09
import Derived.Test.YtbplaekabeggkaaGreatDoorG10
import Derived.Defers
import Derived.Recover
import Derived.WideLaws
import Derived.Test.YtbplaekabeggkaaGreatDoorG01
import Derived.Test.YtbplaekabeggkaaGreatDoorG02
set_option linter.unusedSimpArgs false
set_option linter.unusedVariables false
namespace Go.Proofs.YtbplaekabeggkaaGreatDoor
open Go.RowKit

set_option maxRecDepth 100000 in
set_option maxHeartbeats 4000000 in
theorem decl_c {k : Nat} {toks : List Tok} {en : Int} {br lim pos dep : Nat} {w : World} (hdep : dep = 0) (hB : CBlock k) (hR : Rdr toks en br lim pos dep w) (r : Res T) (hq : pDecl k toks en pos = some r) :
    Calls Tryz.prog 74 #[.pointer (some ⟨br, 0, none⟩)] w (PostN toks en br lim dep w r) := by
  have hlim := hR.limle
  have hbr := hR.lt
  have HDP := Lib.hid hdep
  clear hdep
  unfold pDecl at hq
  dsimp only at hq
  have D := hR
  have Dm := D.limle
  have K := Kp.refl w.heap.size [br] w
  clear hR
  by_cases c1 : isTok (tokAt toks en pos) kType = true
  · rw [if_pos c1] at hq
    go_enter Tryz.func74, Tryz.ntmps74
    go_wp2_with fail
    refine (accept_yes (toks := toks) (en := en) (lim := lim) (dep := dep) (pos := pos) (rda) ⟨#[116, 121, 112, 101]⟩ (by rw [mk_toList]; exact c1)).mono ?_
    rintro e w1 ⟨rfl, D1, hk1⟩
    have z1 := hk1.size
    try simp at z1
    replace R : Loc w1 w.heap.size (.pointer none) 30 := loca
    replace Rc := R.cell
    replace Rl := R.lt
    have Rl_w1 := Rl
    replace Rf := R.frozen
    replace K : Kp w.heap.size [br] w w1 := kpa
    replace Kz := K.size
    have Kz_w1 := Kz
    clear hk1 D
    have D := D1
    clear D1
    replace Dm := D.limle
    go_wp2_with fail
    refine (struct_c D k r hq).mono ?_
    cases r with
    | stop a er =>
      rintro e w2 ⟨rfl, hk2⟩
      have z2 := hk2.size
      try simp at z2
      go_wp2
      exact ⟨rfl, rfl, kpa⟩
    | ok t p =>
      rintro e w2 ⟨b2, rfl, hT2, D2, hk2⟩
      have z2 := hk2.size
      try simp at z2
      clear D
      replace R : Loc w2 w.heap.size (.pointer none) 30 := loca
      replace Rc := R.cell
      replace Rl := R.lt
      have Rl_w2 := Rl
      replace Rf := R.frozen
      replace K : Kp w.heap.size [br] w w2 := kpa
      replace Kz := K.size
      have Kz_w2 := Kz
      clear hk2
      go_wp2
      refine bodyPost_ret (v := .agg #[ptrV b2]) (by simp [results, Tryz.results74, go_sem, *]) rfl ?_
      refine ⟨b2, rfl, ?_, rda, kpa⟩
      refine IsT.frame sza sza (fun k hk hk' => ?_) _ _ hT2
      try simp at hk
      (repeat' (first | rfl | (rw [hS_ne (by first | omega | (simp; omega))]) | (rw [hA_old (by first | omega | (simp; omega))]) | (rw [hD]) | (rw [hDN])))
  rw [if_neg c1] at hq
  rw [Bool.not_eq_true] at c1
  by_cases c2 : isTok (tokAt toks en pos) kFunc = true
  · rw [if_pos c2] at hq
    go_enter Tryz.func74, Tryz.ntmps74
    go_wp2_with fail
    refine (accept_no (toks := toks) (en := en) (lim := lim) (dep := dep) (pos := pos) (rda) ⟨#[116, 121, 112, 101]⟩ (by rw [mk_toList]; exact c1)).mono ?_
    rintro e w1 ⟨rfl, hk1⟩
    have z1 := hk1.size
    try simp at z1
    replace D : Rdr toks en br lim pos dep w1 := rda
    replace Dm := D.limle
    replace R : Loc w1 w.heap.size (.pointer none) 30 := loca
    replace Rc := R.cell
    replace Rl := R.lt
    have Rl_w1 := Rl
    replace Rf := R.frozen
    replace K : Kp w.heap.size [br] w w1 := kpa
    replace Kz := K.size
    have Kz_w1 := Kz
    clear hk1
    go_wp2_with fail
    refine (accept_yes D ⟨#[102, 117, 110, 99]⟩ (by rw [mk_toList]; exact c2)).mono ?_
    rintro e w2 ⟨rfl, D2, hk2⟩
    have z2 := hk2.size
    try simp at z2
    replace R : Loc w2 w.heap.size (.pointer none) 30 := loca
    replace Rc := R.cell
    replace Rl := R.lt
    have Rl_w2 := Rl
    replace Rf := R.frozen
    replace K : Kp w.heap.size [br] w w2 := kpa
    replace Kz := K.size
    have Kz_w2 := Kz
    clear hk2 D
    have D := D2
    clear D2
    replace Dm := D.limle
    go_wp2_with fail
    refine (func_c HDP.out hB D r hq).mono ?_
    cases r with
    | stop a er =>
      rintro e w3 ⟨rfl, hk3⟩
      have z3 := hk3.size
      try simp at z3
      go_wp2
      exact ⟨rfl, rfl, kpa⟩
    | ok t p =>
      rintro e w3 ⟨b3, rfl, hT3, D3, hk3⟩
      have z3 := hk3.size
      try simp at z3
      clear D
      replace R : Loc w3 w.heap.size (.pointer none) 30 := loca
      replace Rc := R.cell
      replace Rl := R.lt
      have Rl_w3 := Rl
      replace Rf := R.frozen
      replace K : Kp w.heap.size [br] w w3 := kpa
      replace Kz := K.size
      have Kz_w3 := Kz
      clear hk3
      go_wp2
      refine bodyPost_ret (v := .agg #[ptrV b3]) (by simp [results, Tryz.results74, go_sem, *]) rfl ?_
      refine ⟨b3, rfl, ?_, rda, kpa⟩
      refine IsT.frame sza sza (fun k hk hk' => ?_) _ _ hT3
      try simp at hk
      (repeat' (first | rfl | (rw [hS_ne (by first | omega | (simp; omega))]) | (rw [hA_old (by first | omega | (simp; omega))]) | (rw [hD]) | (rw [hDN])))
  rw [if_neg c2] at hq
  rw [Bool.not_eq_true] at c2
  by_cases c3 : isTok (tokAt toks en pos) kVar = true
  rotate_left
  · rw [if_neg c3] at hq
    rw [Bool.not_eq_true] at c3
    cases hq
    go_enter Tryz.func74, Tryz.ntmps74
    go_wp2_with fail
    refine (accept_no (toks := toks) (en := en) (lim := lim) (dep := dep) (pos := pos) (rda) ⟨#[116, 121, 112, 101]⟩ (by rw [mk_toList]; exact c1)).mono ?_
    rintro e w1 ⟨rfl, hk1⟩
    have z1 := hk1.size
    try simp at z1
    replace D : Rdr toks en br lim pos dep w1 := rda
    replace Dm := D.limle
    replace R : Loc w1 w.heap.size (.pointer none) 30 := loca
    replace Rc := R.cell
    replace Rl := R.lt
    have Rl_w1 := Rl
    replace Rf := R.frozen
    replace K : Kp w.heap.size [br] w w1 := kpa
    replace Kz := K.size
    have Kz_w1 := Kz
    clear hk1
    go_wp2_with fail
    refine (accept_no D ⟨#[102, 117, 110, 99]⟩ (by rw [mk_toList]; exact c2)).mono ?_
    rintro e w2 ⟨rfl, hk2⟩
    have z2 := hk2.size
    try simp at z2
    replace D : Rdr toks en br lim pos dep w2 := rda
    replace Dm := D.limle
    replace R : Loc w2 w.heap.size (.pointer none) 30 := loca
    replace Rc := R.cell
    replace Rl := R.lt
    have Rl_w2 := Rl
    replace Rf := R.frozen
    replace K : Kp w.heap.size [br] w w2 := kpa
    replace Kz := K.size
    have Kz_w2 := Kz
    clear hk2
    go_wp2_with fail
    refine (accept_no D ⟨#[118, 97, 114]⟩ (by rw [mk_toList]; exact c3)).mono ?_
    rintro e w3 ⟨rfl, hk3⟩
    have z3 := hk3.size
    try simp at z3
    replace D : Rdr toks en br lim pos dep w3 := rda
    replace Dm := D.limle
    replace R : Loc w3 w.heap.size (.pointer none) 30 := loca
    replace Rc := R.cell
    replace Rl := R.lt
    have Rl_w3 := Rl
    replace Rf := R.frozen
    replace K : Kp w.heap.size [br] w w3 := kpa
    replace Kz := K.size
    have Kz_w3 := Kz
    clear hk3
    go_wp2_with fail
    refine (fail_c D).mono ?_
    rintro e w4 ⟨rfl, hk4⟩
    have z4 := hk4.size
    try simp at z4
    go_wp2
    exact ⟨rfl, rfl, kpa⟩
  rw [if_pos c3] at hq
  have HE := fun w1 (h1 : Rdr toks en br lim (pos + 1) dep w1) => part_n (dep := dep) 3 h1 _ rfl
  cases hX : pPart toks en (pos + 1) with
  | stop a er =>
    rw [hX] at hq HE
    cases hq
    go_enter Tryz.func74, Tryz.ntmps74
    go_wp2_with fail
    refine (accept_no (toks := toks) (en := en) (lim := lim) (dep := dep) (pos := pos) (rda) ⟨#[116, 121, 112, 101]⟩ (by rw [mk_toList]; exact c1)).mono ?_
    rintro e w1 ⟨rfl, hk1⟩
    have z1 := hk1.size
    try simp at z1
    replace D : Rdr toks en br lim pos dep w1 := rda
    replace Dm := D.limle
    replace R : Loc w1 w.heap.size (.pointer none) 30 := loca
    replace Rc := R.cell
    replace Rl := R.lt
    have Rl_w1 := Rl
    replace Rf := R.frozen
    replace K : Kp w.heap.size [br] w w1 := kpa
    replace Kz := K.size
    have Kz_w1 := Kz
    clear hk1
    go_wp2_with fail
    refine (accept_no D ⟨#[102, 117, 110, 99]⟩ (by rw [mk_toList]; exact c2)).mono ?_
    rintro e w2 ⟨rfl, hk2⟩
    have z2 := hk2.size
    try simp at z2
    replace D : Rdr toks en br lim pos dep w2 := rda
    replace Dm := D.limle
    replace R : Loc w2 w.heap.size (.pointer none) 30 := loca
    replace Rc := R.cell
    replace Rl := R.lt
    have Rl_w2 := Rl
    replace Rf := R.frozen
    replace K : Kp w.heap.size [br] w w2 := kpa
    replace Kz := K.size
    have Kz_w2 := Kz
    clear hk2
    go_wp2_with fail
    refine (accept_yes D ⟨#[118, 97, 114]⟩ (by rw [mk_toList]; exact c3)).mono ?_
    rintro e w3 ⟨rfl, D3, hk3⟩
    have z3 := hk3.size
    try simp at z3
    replace R : Loc w3 w.heap.size (.pointer none) 30 := loca
    replace Rc := R.cell
    replace Rl := R.lt
    have Rl_w3 := Rl
    replace Rf := R.frozen
    replace K : Kp w.heap.size [br] w w3 := kpa
    replace Kz := K.size
    have Kz_w3 := Kz
    clear hk3 D
    have D := D3
    clear D3
    replace Dm := D.limle
    go_wp2_with fail
    refine (HE _ D).mono ?_
    rintro e w4 ⟨rfl, hk4⟩
    have z4 := hk4.size
    try simp at z4
    go_wp2
    exact ⟨rfl, rfl, kpa⟩
  | ok y p =>
  rw [hX] at hq HE
  dsimp only [partR] at hq HE
  go_enter Tryz.func74, Tryz.ntmps74
  go_wp2_with fail
  refine (accept_no (toks := toks) (en := en) (lim := lim) (dep := dep) (pos := pos) (rda) ⟨#[116, 121, 112, 101]⟩ (by rw [mk_toList]; exact c1)).mono ?_
  rintro e w1 ⟨rfl, hk1⟩
  have z1 := hk1.size
  try simp at z1
  replace D : Rdr toks en br lim pos dep w1 := rda
  replace Dm := D.limle
  replace R : Loc w1 w.heap.size (.pointer none) 30 := loca
  replace Rc := R.cell
  replace Rl := R.lt
  have Rl_w1 := Rl
  replace Rf := R.frozen
  replace K : Kp w.heap.size [br] w w1 := kpa
  replace Kz := K.size
  have Kz_w1 := Kz
  clear hk1
  go_wp2_with fail
  refine (accept_no D ⟨#[102, 117, 110, 99]⟩ (by rw [mk_toList]; exact c2)).mono ?_
  rintro e w2 ⟨rfl, hk2⟩
  have z2 := hk2.size
  try simp at z2
  replace D : Rdr toks en br lim pos dep w2 := rda
  replace Dm := D.limle
  replace R : Loc w2 w.heap.size (.pointer none) 30 := loca
  replace Rc := R.cell
  replace Rl := R.lt
  have Rl_w2 := Rl
  replace Rf := R.frozen
  replace K : Kp w.heap.size [br] w w2 := kpa
  replace Kz := K.size
  have Kz_w2 := Kz
  clear hk2
  go_wp2_with fail
  refine (accept_yes D ⟨#[118, 97, 114]⟩ (by rw [mk_toList]; exact c3)).mono ?_
  rintro e w3 ⟨rfl, D3, hk3⟩
  have z3 := hk3.size
  try simp at z3
  replace R : Loc w3 w.heap.size (.pointer none) 30 := loca
  replace Rc := R.cell
  replace Rl := R.lt
  have Rl_w3 := Rl
  replace Rf := R.frozen
  replace K : Kp w.heap.size [br] w w3 := kpa
  replace Kz := K.size
  have Kz_w3 := Kz
  clear hk3 D
  have D := D3
  clear D3
  replace Dm := D.limle
  go_wp2_with fail
  refine (HE _ D).mono ?_
  rintro e w4 ⟨b4, rfl, hT4, D4, hk4⟩
  have z4 := hk4.size
  try simp at z4
  have T4 : TreeAt w4 w3.heap.size w4.heap.size b4 (leafT 3 y) := ⟨Nat.le_refl _, hT4⟩
  clear D
  replace R : Loc w4 w.heap.size (.pointer none) 30 := loca
  replace Rc := R.cell
  replace Rl := R.lt
  have Rl_w4 := Rl
  replace Rf := R.frozen
  replace K : Kp w.heap.size [br] w w4 := kpa
  replace Kz := K.size
  have Kz_w4 := Kz
  have D := D4
  clear hk4 D4 hT4
  have L := Loc.new w4 (ptrV b4) 30
  by_cases cs : isTok (tokAt toks en p) kSemi = true
  · rw [if_pos cs] at hq
    cases hq
    go_wp2_with fail
    refine (expect_yes (toks := toks) (en := en) (lim := lim) (dep := dep) (pos := p) (rda) ⟨#[59]⟩ (by rw [mk_toList]; exact cs)).mono ?_
    rintro e w5 ⟨rfl, D5, hk5⟩
    have z5 := hk5.size
    try simp at z5
    replace R : Loc w5 w.heap.size (.pointer none) 30 := loca
    replace Rc := R.cell
    replace Rl := R.lt
    have Rl_w5 := Rl
    replace Rf := R.frozen
    replace T4 : TreeAt w5 w3.heap.size w4.heap.size b4 (leafT 3 y) := tra
    replace T4m := T4.le
    replace L : Loc w5 w4.heap.size (ptrV b4) 30 := loca
    replace Lc := L.cell
    replace Ll := L.lt
    have Ll_w5 := Ll
    replace Lf := L.frozen
    replace K : Kp w.heap.size [br] w w5 := kpa
    replace Kz := K.size
    have Kz_w5 := Kz
    clear hk5 D
    have D := D5
    clear D5
    replace Dm := D.limle
    go_wp2
    refine bodyPost_ret (v := .agg #[ptrV b4]) (by simp [results, Tryz.results74, go_sem, *]) rfl ?_
    refine ⟨b4, rfl, ?_, rda, kpa⟩
    exact IsT.frame sza sza (fun k hk hk' => hS_ne (by omega)) _ _ T4.tr
  · rw [if_neg cs] at hq
    rw [Bool.not_eq_true] at cs
    cases hq
    go_wp2_with fail
    refine (expect_no (toks := toks) (en := en) (lim := lim) (dep := dep) (pos := p) (rda) ⟨#[59]⟩ (by rw [mk_toList]; exact cs)).mono ?_
    rintro e w5 ⟨rfl, hk5⟩
    have z5 := hk5.size
    try simp at z5
    go_wp2
    exact ⟨rfl, rfl, kpa⟩

/-- all of an expression's functions, by rounds -/
structure CE (k : Nat) : Prop where
  expr : CExpr k
  unary : CUnary k
  postfix_ : CPostfix k
  primary : CPrimary k
  named : CNamed k
  brackets : CBrackets k
theorem ce_zero : CE 0 := by
  constructor
  · intro toks en br lim pos dep least w r _ _ _ h; simp [pExpr] at h
  · intro toks en br lim pos dep w r _ _ h; simp [pUnary] at h
  · intro toks en br lim pos dep w r _ _ h; simp [pPostfix] at h
  · intro toks en br lim pos dep w r _ _ h; simp [pPrimary] at h
  · intro toks en br lim pos dep w r _ _ _ h; simp [pNamed] at h
  · intro toks en br lim pos dep w r _ _ h; simp [pBrackets] at h
theorem ce_all (hN : CNum) : ∀ k, ∀ j, j ≤ k → CE j := by
  intro k
  induction k with
  | zero => intro j hj; obtain rfl : j = 0 := (by omega); exact ce_zero
  | succ k ih =>
    intro j hj
    rcases Nat.lt_or_ge j (k + 1) with h | h
    · exact ih j (by omega)
    · obtain rfl : j = k + 1 := by omega
      have hk := ih k (Nat.le_refl _)
      exact ⟨expr_step hk.unary (fun i hi => (ih i hi).expr), unary_step hk.unary hk.postfix_, postfix_step hk.primary, primary_step hN hk.named hk.brackets, named_step (fun i hi => (ih i hi).expr), brackets_step hk.expr⟩
/-- all of a statement's -/
structure CS (k : Nat) : Prop where
  stmt : CStmt k
  branch : CBranch k
  block : CBlock k
theorem cs_zero : CS 0 := by
  constructor
  · intro toks en br lim pos dep w r _ _ h; simp [pStmt] at h
  · intro toks en br lim pos dep w r _ _ h; simp [pBranch] at h
  · intro toks en br lim pos dep w r _ _ h; simp [pBlock] at h
theorem cs_all (hN : CNum) : ∀ k, ∀ j, j ≤ k → CS j := by
  intro k
  induction k with
  | zero => intro j hj; obtain rfl : j = 0 := (by omega); exact cs_zero
  | succ k ih =>
    intro j hj
    rcases Nat.lt_or_ge j (k + 1) with h | h
    · exact ih j (by omega)
    · obtain rfl : j = k + 1 := by omega
      have hk := ih k (Nat.le_refl _)
      have he := ce_all hN k k (Nat.le_refl _)
      exact ⟨stmt_step he.postfix_ he.expr he.brackets hk.block hk.branch, branch_step he.expr hk.block hk.branch, block_step (fun i hi => (ih i hi).stmt)⟩
theorem decl_all (hN : CNum) {k : Nat} {toks : List Tok} {en : Int} {br lim pos : Nat} {w : World} (hR : Rdr toks en br lim pos 0 w) (r : Res T) (hq : pDecl k toks en pos = some r) :
    Calls Tryz.prog 74 #[.pointer (some ⟨br, 0, none⟩)] w (PostN toks en br lim 0 w r) := decl_c rfl (cs_all hN k k (Nat.le_refl _)).block hR r hq

end Go.Proofs.YtbplaekabeggkaaGreatDoor

namespace Go.Proofs.YtbplaekabeggkaaGreatDoor
open Go.RowKit

def stV (a e : Int) : Value := .agg #[.int .i64 a, .int .i64 e]

set_option maxHeartbeats 1000000 in
theorem catch_p (n s : Nat) (at_ err : Int) (v0 v1 v2 : Value) (w : World) (hn : Loc w n v0 30) (hs : Blk w s #[v1, v2] 77) (hne : ¬ n = s) :
    CallsD Tryz.prog 72 #[ptrV n, ptrV s] (.panicking [{ v := .iface 77 (.agg #[.int .i64 at_, .int .i64 err]), recovered := false }]) w fun e u' w' =>
      e = .returned (.tuple #[]) ∧ u' = .panicking [{ v := .iface 77 (.agg #[.int .i64 at_, .int .i64 err]), recovered := true }] ∧ Loc w' n (.pointer none) 30 ∧ Blk w' s #[.int .i64 at_, .int .i64 err] 77 ∧ Kp w.heap.size [n, s] w w' := by
  refine callsD_of_wpS Tryz.func72 rfl fun c₀ cs hu => ?_
  apply wpS_seq
  apply wpS_region
  simp [wpOpsS, go_sem, recoverD, hu, Tryz.ntmps72, Exit.thenS]
  refine wpS_of_wp ?_
  have hta : ∀ (x : Value) (w : World), (Instr.typeAssert (.iface 77 x) 20 77 false).run Tryz.prog w = .ok x w := fun _ _ => by kernel_rfl
  have nc := hn.cell
  have nf := hn.frozen
  have nl := hn.lt
  have sl := hs.lt
  have s0 := hs.cell 0
  have s1 := hs.cell 1
  have sf0 := hs.frozen 0
  have sf1 := hs.frozen 1
  have hne' : ¬ s = n := fun e => hne e.symm
  simp at s0 s1
  go_wp2_with fail
  · refine wp_region_U (S := (fun _ => True)) (F := []) (by kernel_rfl) (by (first | (simp; done) | (simp [World.cell?_setCell_other, World.cell?_alloc_lt, *]; done))) (fun hHeld => ?_)
    refine tkU 0 (v := ?_) rfl (by kernel_rfl) (fun _ _ _ h => h) (Or.inl ⟨by rfl, ?_⟩) (by assumption) ?_
    rotate_left
    · intro w hSw; (try dsimp only at hSw); go_simp; try with_reducible rfl
    try simp only [Act.put, pz]
    refine tkU 1 (v := ?_) rfl (by kernel_rfl) (fun _ _ _ h => h) (Or.inl ⟨by rfl, ?_⟩) (by assumption) ?_
    rotate_left
    · intro w hSw; (try dsimp only at hSw); go_simp; try with_reducible rfl
    try simp only [Act.put, pz]
    refine tkU 2 (v := ?_) rfl (by kernel_rfl) (fun _ _ _ h => h) (Or.inl ⟨by rfl, ?_⟩) (by assumption) ?_
    rotate_left
    · intro w hSw; (try dsimp only at hSw); go_simp; try with_reducible rfl
    try simp only [Act.put, pz]
    refine wpAnyU_one (i := 3) (by kernel_rfl) rfl rfl (fun K hK => ?_)
    go_simp
    refine hK.out _ _ ?_ ?_
    · intro _; (first | (simp; done) | (simp [World.cell?_setCell_other, World.cell?_alloc_lt, *]; done))
    clear hK K
    try simp only [Act.put, pz]
    refine wpAnyU_one (i := 4) (by kernel_rfl) rfl rfl (fun K hK => ?_)
    go_simp
    refine hK.out _ _ ?_ ?_
    · intro _; (first | (simp; done) | (simp [World.cell?_setCell_other, World.cell?_alloc_lt, *]; done))
    clear hK K
    try simp only [Act.put, pz]
    refine wpAnyU_done (by kernel_rfl) ?_ _
    simp (zetaDelta := true) [bodyPostS, results, Tryz.results72]
    have b1 := hs.other (c := n) 0 (.pointer none) hne'
    refine ⟨(((hn.set (.pointer none)).other 0 _ hne).other 1 _ hne).drew, ⟨?_⟩, kpa⟩
    rw [hD, heap_setCell_same (heap_setCell_same b1.blk _)]
    rfl

set_option maxHeartbeats 1000000 in
theorem catch_i (n s : Nat) (w : World) :
    CallsD Tryz.prog 72 #[ptrV n, ptrV s] .returning w fun e u' w' => e = .returned (.tuple #[]) ∧ u' = .returning ∧ w' = w := by
  refine callsD_of_wpS Tryz.func72 rfl fun c₀ cs hu => ?_
  apply wpS_seq
  apply wpS_region
  simp [wpOpsS, go_sem, recoverD, hu, Tryz.ntmps72, Exit.thenS]
  refine wpS_of_wp ?_
  go_wp2_with fail
  cases c₀
  simp_all [bodyPostS, results, Tryz.results72]

theorem Kp.cut {n m : Nat} {S S' : List Nat} {a w : World} (h : Kp n S a w) (hm : m ≤ n) (hS : ∀ k ∈ S, m ≤ k ∨ k ∈ S') : Kp m S' a w :=
  ⟨h.os, h.tape, h.output, h.size, fun i hi hs => h.block i (by omega) (fun hk => (hS i hk).elim (fun h => by omega) hs)⟩
theorem leaves_congr {fn : Func} {tmps tmps' : Array Value} {R : Ending → World → Prop} (h : results fn tmps = results fn tmps') : ∀ (ds : List Deferred) (u : FrameMode) (w : World), Leaves Tryz.prog fn tmps R ds u w → Leaves Tryz.prog fn tmps' R ds u w
  | [], .returning, w, ⟨v, h1, h2⟩ => ⟨v, by rw [← h]; exact h1, h2⟩
  | [], .panicking chain, w, hh => hh
  | [], .run, _, hh => hh
  | d :: ds, u, w, ⟨hu, fv, cap, f, args, h1, h2, h3⟩ => ⟨hu, fv, cap, f, args, h1, h2, h3.mono fun e u' w' hh => by
      cases e with
      | returned v => exact leaves_congr h ds _ _ hh
      | panicked chain => exact leaves_congr h ds _ _ hh
      | outgrown => exact hh⟩
theorem results39_put (a : Act) (d : Nat) (v : Value) (h2 : ¬ d = 2) (h3 : ¬ d = 3) : results Tryz.f39 (a.put (some d) v).tmps = results Tryz.f39 a.tmps := by
  have e2 : (a.tmps.setIfInBounds d v).getD 2 undef = a.tmps.getD 2 undef := by simp [Array.getElem?_setIfInBounds, h2]
  have e3 : (a.tmps.setIfInBounds d v).getD 3 undef = a.tmps.getD 3 undef := by simp [Array.getElem?_setIfInBounds, h3]
  simp only [results, Tryz.results39, Act.put]
  simp only [List.mapM_toArray, List.mapM_cons, List.mapM_nil, e2, e3]
theorem q39 {R : Ending → World → Prop} {d : Nat} {v : Value} {c : List PanicEntry} {a : Act} {w : World} (h2 : ¬ d = 2) (h3 : ¬ d = 3) (h : bodyPostD Tryz.prog Tryz.f39 R (.panic c) (a.put (some d) v) w) : bodyPostD Tryz.prog Tryz.f39 R (.panic c) a w := by
  have h' : Leaves Tryz.prog Tryz.f39 (a.put (some d) v).tmps R a.defers (.panicking c) w := h
  exact leaves_congr (results39_put a d v h2 h3) _ _ _ h'

def PostPr (w : World) (r : Res (List T)) (br : Nat) (e : Ending) (w' : World) : Prop :=
  match r with
  | .ok ts _ => ∃ b, e = .returned (.tuple #[.agg #[ptrV b], .agg #[.int .i64 0, .int .i64 0]]) ∧ IsT w' w.heap.size w'.heap.size b (.mk 1 [] [] 0 0 ts) ∧ Kp w.heap.size [br] w w'
  | .stop a er => e = .returned (.tuple #[nilN, .agg #[.int .i64 a, .int .i64 er]]) ∧ Kp w.heap.size [br] w w'

set_option maxRecDepth 100000 in
set_option maxHeartbeats 4000000 in
theorem prog_c (hN : CNum) {k : Nat} {toks : List Tok} {en : Int} {br lim : Nat} {w : World} (hR : Rdr toks en br lim 0 0 w) (r : Res (List T)) (hq : pProg k toks en [] 0 = some r) :
    Calls Tryz.prog 39 #[.pointer (some ⟨br, 0, none⟩)] w (PostPr w r br) := by
  have hlim := hR.limle
  have hbr := hR.lt
  have hsm := hR.small
  have hmf : ∀ (fn : Fn) (first cap : Array Value) (w : World), (Instr.makeFunc fn first cap).run Tryz.prog w = .ok (.func fn first cap) w := fun _ _ _ _ => rfl
  obtain ⟨dep, hdep⟩ : ∃ dep, dep = 0 := ⟨_, rfl⟩
  obtain ⟨pos, hpos⟩ : ∃ pos, pos = 0 := ⟨_, rfl⟩
  have D : Rdr toks en br lim pos dep w := by rw [hdep, hpos]; exact hR
  have Dm := D.limle
  have K := Kp.refl w.heap.size [br] w
  have HDP := Lib.hid hdep
  have HM := Lib.hid (show pProg k toks en [] pos = some r by rw [hpos]; exact hq)
  clear hR hdep hpos hq
  go_enter_defers Tryz.func39, Tryz.ntmps39
  go_wp2_with fail
  refine (plain_c _ _ _ _ _ _).mono ?_
  rintro e w2 ⟨rfl, s2, c2, hk2⟩
  have z2 := hk2.size
  try simp at s2
  try simp at z2
  try simp at c2
  have z2' := Nat.le_of_eq s2.symm
  have N : NodeB w2 w.heap.size [w.heap.size + 1, w.heap.size] (w.heap.size + 1 + 1 + 1) 1 ⟨#[]⟩ ⟨#[]⟩ 0 0 (.slice none 0 0) [] [] := NodeB.leaf (by omega) (by omega) (by simp; omega) c2
  clear s2 c2
  replace D : Rdr toks en br lim pos dep w2 := rda
  replace Dm := D.limle
  replace S : Blk w2 (w.heap.size + 1) #[.int .i64 0, .int .i64 0] 77 := bka
  replace Sl := S.lt
  replace L : Loc w2 w.heap.size (.pointer none) 30 := loca
  replace Lc := L.cell
  replace Ll := L.lt
  have Ll_w2 := Ll
  replace Lf := L.frozen
  replace K : Kp w.heap.size [br] w w2 := kpa
  replace Kz := K.size
  have Kz_w2 := Kz
  clear hk2
  have hq0 := Lc
  have hq1 := Lf
  have hq2 := Ll
  go_wp2_with fail
  have nnb : ¬ w.heap.size + 1 = w.heap.size := by omega
  have L' := L.set (ptrV (w.heap.size + 1 + 1 + 1))
  have N' := N.setEx (b := w.heap.size) 0 (ptrV (w.heap.size + 1 + 1 + 1)) (by left; simp)
  have D' : Rdr toks en br lim pos dep (w2.setCell ⟨w.heap.size, 0, none⟩ (ptrV (w.heap.size + 1 + 1 + 1))) := rda
  have S' := S.other (c := w.heap.size) 0 (ptrV (w.heap.size + 1 + 1 + 1)) nnb
  have K' : Kp w.heap.size [br] w (w2.setCell ⟨w.heap.size, 0, none⟩ (ptrV (w.heap.size + 1 + 1 + 1))) := kpa
  clear L N D S K Lc Lf Ll Sl hq0 hq1 hq2
  generalize w2.setCell ⟨w.heap.size, 0, none⟩ (ptrV (w.heap.size + 1 + 1 + 1)) = W2 at *
  have hb0 : w.heap.size ≤ w.heap.size + 1 + 1 + 1 := by omega
  generalize hbd : w.heap.size + 1 + 1 + 1 = bd at *
  clear hbd
  obtain ⟨nv, hnv⟩ : ∃ nv, nv = w.heap.size := ⟨_, rfl⟩
  go_loopg [] k (fun j wr => ∃ p acc sv bs, Go.Aside (j ≤ k ∧ pProg j toks en acc p = some r ∧ acc.length ≤ p) ∧ Rdr toks en br lim p dep wr ∧ Blk wr (w.heap.size + 1) #[.int .i64 0, .int .i64 0] 77 ∧ Loc wr w.heap.size (ptrV bd) 30 ∧
    NodeB wr w.heap.size [w.heap.size + 1, w.heap.size] bd 1 ⟨#[]⟩ ⟨#[]⟩ 0 0 sv bs acc ∧ Kp w.heap.size [br] w wr)
  case atStart => exact ⟨_, _, _, _, ⟨Nat.le_refl _, HM.out, by simp⟩, D', S', L', N', K'⟩
  case round =>
    obtain ⟨p, acc, sv, bs, A, D, S, L, N, K⟩ := hrel
    obtain ⟨hjk, hA, hAl⟩ := A.out
    have rle := N.lo_le
    have Kz := K.size
    have Dm := D.limle
    have hlen : acc.length ≤ 100000 := by have := D.posle; omega
    clear A HM D' S' L' N' K'
    cases gk with
    | zero => simp [pProg] at hA
    | succ gk =>
    rw [pProg] at hA
    obtain ⟨cap', sp', d0, d1, d2, d3, g1, g3⟩ := D.cells
    have hbrw : br < wr.heap.size := by omega
    by_cases c1 : p < toks.length
    · rw [if_pos c1] at hA
      have hlt0 : (p : Int) < (toks.length : Int) := by omega
      cases hX : pDecl gk toks en p with
      | none => rw [hX] at hA; cases hA
      | some y =>
      rw [hX] at hA
      have HE := fun w1 (h1 : Rdr toks en br lim p dep w1) => decl_c HDP.out (cs_all hN gk gk (Nat.le_refl _)).block h1 y hX
      have hlt := fun t p' (e : y = .ok t p') => pDecl_adv (t := t) (p := p') (e ▸ hX)
      clear hX
      go_wp2_with fail
      go_quiet (fail)
      have hr := D.drewN nq
      have M0 := S.drewN nq
      have M1 := L.drewN nq
      have MN := N.drewN nq
      have K' := K.drewN nq
      clear D S L N K d0 d1 d2 d3 g1 g3 hbrw
      have K := K'
      clear K'
      generalize wr.drewN nq = wq at *
      cases y with
      | stop a er =>
        cases hA
        have ml := MN.lt
        have mle := MN.lo_le
        have ml1 := M1.lt
        have ml0 := M0.lt
        have mz := K.size
        have m2 := M1.cell
        obtain ⟨m3, m4, -⟩ := MN.cell
        go_wp2_with fail
        refine wp_region_U (S := (fun W => W.cell? ⟨w.heap.size, 0, none⟩ = some (ptrV bd) ∧ W.cell? ⟨bd, 5, none⟩ = some sv)) (F := [11,12,13]) (by kernel_rfl) (by (first | (simp; done) | (simp [World.cell?_setCell_other, World.cell?_alloc_lt, *]; done))) (fun hHeld => ?_)
        refine tkU 0 (v := ?_) rfl (by kernel_rfl) (fun _ _ _ h => q39 (by decide) (by decide) h) (Or.inl ⟨by rfl, ?_⟩) (by assumption) ?_
        rotate_left
        · intro w hSw; (try dsimp only at hSw); go_simp; try with_reducible rfl
        try simp only [Act.put, pz]
        refine tkU 1 (v := ?_) rfl (by kernel_rfl) (fun _ _ _ h => q39 (by decide) (by decide) h) (Or.inl ⟨by rfl, ?_⟩) (by assumption) ?_
        rotate_left
        · intro w hSw; (try dsimp only at hSw); go_simp; try with_reducible rfl
        try simp only [Act.put, pz]
        refine tkU 2 (v := ?_) rfl (by kernel_rfl) (fun _ _ _ h => q39 (by decide) (by decide) h) (Or.inl ⟨by rfl, ?_⟩) (by assumption) ?_
        rotate_left
        · intro w hSw; (try dsimp only at hSw); go_simp; try with_reducible rfl
        try simp only [Act.put, pz]
        refine tkU 3 (v := ?_) rfl (by kernel_rfl) (fun _ _ _ h => q39 (by decide) (by decide) h) (Or.inl ⟨by rfl, ?_⟩) (by assumption) ?_
        rotate_left
        · intro w hSw; (try dsimp only at hSw); go_simp; try with_reducible rfl
        try simp only [Act.put, pz]
        refine tkU 4 (v := ?_) rfl (by kernel_rfl) (fun _ _ _ h => q39 (by decide) (by decide) h) (Or.inl ⟨by rfl, ?_⟩) (by assumption) ?_
        rotate_left
        · intro w hSw; (try dsimp only at hSw); go_simp; try with_reducible rfl
        try simp only [Act.put, pz]
        refine tkU 5 (v := ?_) rfl (by kernel_rfl) (fun _ _ _ h => q39 (by decide) (by decide) h) (Or.inl ⟨by rfl, ?_⟩) (by assumption) ?_
        rotate_left
        · intro w hSw; (try dsimp only at hSw); go_simp; try with_reducible rfl
        try simp only [Act.put, pz]
        refine tkU 6 (v := ?_) rfl (by kernel_rfl) (fun _ _ _ h => q39 (by decide) (by decide) h) (Or.inl ⟨by rfl, ?_⟩) (by assumption) ?_
        rotate_left
        · intro w hSw; (try dsimp only at hSw); go_simp; try with_reducible rfl
        try simp only [Act.put, pz]
        refine tkU 7 (v := ?_) rfl (by kernel_rfl) (fun _ _ _ h => q39 (by decide) (by decide) h) (Or.inl ⟨by rfl, ?_⟩) (by assumption) ?_
        rotate_left
        · intro w hSw; (try dsimp only at hSw); go_simp; try with_reducible rfl
        try simp only [Act.put, pz]
        refine wpAnyU_one (i := 8) (by kernel_rfl) rfl rfl (fun K1 hK => ?_)
        go_simp
        refine (HE _ (rda)).mono ?_
        clear hK
        rintro e w6 ⟨rfl, hk6⟩
        have z6 := hk6.size
        try simp at z6
        have S6 := (M0.drew).kp hk6 (by simp; omega) (by simp; omega)
        have L6 := (M1.drew).kp hk6 (by simp; omega) (by simp; omega)
        have K6 : Kp w.heap.size [br] w w6 := kpa
        go_wp2
        refine leaves_cons (f := 72) (args := #[ptrV w.heap.size, ptrV (w.heap.size + 1)]) (by simp) (by simp [go_sem]) ?_
        refine (catch_p w.heap.size (w.heap.size + 1) a er (ptrV bd) (.int .i64 0) (.int .i64 0) _ L6 S6 (by omega)).mono ?_
        rintro e u' w7 ⟨rfl, rfl, hL7, hS7, hk7⟩
        have l7 := hL7.cell
        have s7 := hS7.cell 0
        have s7' := hS7.cell 1
        simp at s7 s7'
        have K7 : Kp w.heap.size [br] w w7 := K6.trans (hk7.cut (by omega) (by simp))
        simp [Leaves, settle, results, Tryz.results39, go_sem, *]
        exact ⟨rfl, K7⟩
      | ok t p' =>
        have hlt := hlt t p' rfl
        dsimp only at hA
        have ml := MN.lt
        have mle := MN.lo_le
        have ml1 := M1.lt
        have ml0 := M0.lt
        have mz := K.size
        have m2 := M1.cell
        obtain ⟨m3, m4, -⟩ := MN.cell
        go_wp2_with fail
        refine wp_region_U (S := (fun W => W.cell? ⟨w.heap.size, 0, none⟩ = some (ptrV bd) ∧ W.cell? ⟨bd, 5, none⟩ = some sv)) (F := [11,12,13]) (by kernel_rfl) ⟨m2, m3⟩ (fun hHeld => ?_)
        refine tkU 0 (v := ?_) rfl (by kernel_rfl) (fun _ _ _ h => q39 (by decide) (by decide) h) (Or.inl ⟨by rfl, ?_⟩) (by assumption) ?_
        rotate_left
        · intro w hSw; (try dsimp only at hSw); go_simp; try with_reducible rfl
        try simp only [Act.put, pz]
        refine tkU 1 (v := ?_) rfl (by kernel_rfl) (fun _ _ _ h => q39 (by decide) (by decide) h) (Or.inl ⟨by rfl, ?_⟩) (by assumption) ?_
        rotate_left
        · intro w hSw; (try dsimp only at hSw); go_simp; try with_reducible rfl
        try simp only [Act.put, pz]
        refine tkU 2 (v := ?_) rfl (by kernel_rfl) (fun _ _ _ h => q39 (by decide) (by decide) h) (Or.inl ⟨by rfl, ?_⟩) (by assumption) ?_
        rotate_left
        · intro w hSw; (try dsimp only at hSw); go_simp; try with_reducible rfl
        try simp only [Act.put, pz]
        refine tkU 3 (v := ?_) rfl (by kernel_rfl) (fun _ _ _ h => q39 (by decide) (by decide) h) (Or.inl ⟨by rfl, ?_⟩) (by assumption) ?_
        rotate_left
        · intro w hSw; (try dsimp only at hSw); go_simp; try with_reducible rfl
        try simp only [Act.put, pz]
        refine tkU 4 (v := ?_) rfl (by kernel_rfl) (fun _ _ _ h => q39 (by decide) (by decide) h) (Or.inl ⟨by rfl, ?_⟩) (by assumption) ?_
        rotate_left
        · intro w hSw; (try dsimp only at hSw); go_simp; try with_reducible rfl
        try simp only [Act.put, pz]
        refine tkU 5 (v := ?_) rfl (by kernel_rfl) (fun _ _ _ h => q39 (by decide) (by decide) h) (Or.inl ⟨by rfl, ?_⟩) (by assumption) ?_
        rotate_left
        · intro w hSw; (try dsimp only at hSw); go_simp; try with_reducible rfl
        try simp only [Act.put, pz]
        refine tkU 6 (v := ?_) rfl (by kernel_rfl) (fun _ _ _ h => q39 (by decide) (by decide) h) (Or.inl ⟨by rfl, ?_⟩) (by assumption) ?_
        rotate_left
        · intro w hSw; (try dsimp only at hSw); go_simp; try with_reducible rfl
        try simp only [Act.put, pz]
        refine tkU 7 (v := ?_) rfl (by kernel_rfl) (fun _ _ _ h => q39 (by decide) (by decide) h) (Or.inl ⟨by rfl, ?_⟩) (by assumption) ?_
        rotate_left
        · intro w hSw; (try dsimp only at hSw); go_simp; try with_reducible rfl
        try simp only [Act.put, pz]
        refine wpAnyU_one (i := 8) (by kernel_rfl) rfl rfl (fun K1 hK => ?_)
        go_simp
        refine (HE _ (rda)).mono ?_
        rintro e w6 ⟨b6, rfl, hT6, hr6, hk6⟩
        have z6 := hk6.size
        try simp at z6
        have M16 := M1.drew.kp hk6 sza sza
        have M06 := M0.drew.kp hk6 sza sza
        have MN6 := MN.drew.kp hk6 sza (by simp; omega)
        try dsimp only
        refine hK.out _ _ ?_ ?_
        · intro _; exact ⟨M16.cell, MN6.cell.1⟩
        clear hK K1
        try simp only [Act.put, pz]
        refine wpAnyU_one (i := 9) (by kernel_rfl) rfl rfl (fun K1 hK => ?_)
        go_simp
        refine hK.out _ _ ?_ ?_
        · intro _; exact ⟨(M16.alloc _).cell, (MN6.alloc _).cell.1⟩
        clear hK K1
        try simp only [Act.put, pz]
        have NN6 := MN6.alloc (.cells #[ptrV b6] 30)
        have nr6 := NN6.row
        refine wpAnyU_one (i := 10) (by kernel_rfl) rfl rfl (fun K1 hK => ?_)
        refine app_node 22 25 rfl _ sv bs b6 rfl nr6.1 ⟨w6.heap.size, 0, none⟩ rfl (by simp) (by rw [Kids.len _ _ nr6.2.2]; exact hlen) (by simp; omega) ?_
        intro g6 cap6 v6 how6 hgr6 hat6 hlt6
        obtain ⟨d36, d46⟩ := NN6.grown5 hgr6
        have M1G := (M16.alloc (.cells #[ptrV b6] 30)).grown hgr6 (NN6.exne (by simp))
        have M0G := (M06.alloc (.cells #[ptrV b6] 30)).grown hgr6 (NN6.exne (by simp))
        have m1g := M1G.cell
        have sG := hgr6.size
        simp at sG
        refine hK.out _ _ ?_ ?_
        · intro _; exact ⟨m1g, d36⟩
        clear hK K1
        try simp only [Act.put, pz]
        refine wpAnyU_one (i := 11) (by kernel_rfl) rfl rfl (fun K1 hK => ?_)
        go_simp
        refine hK.out _ _ ?_ ?_
        · intro hF; exact absurd hF (by decide)
        clear hK K1
        try simp only [Act.put, pz]
        refine wpAnyU_one (i := 12) (by kernel_rfl) rfl rfl (fun K1 hK => ?_)
        go_simp
        refine hK.out _ _ ?_ ?_
        · intro hF; exact absurd hF (by decide)
        clear hK K1
        try simp only [Act.put, pz]
        refine wpAnyU_one (i := 13) (by kernel_rfl) rfl rfl (fun K1 hK => ?_)
        go_simp
        refine hK.out _ _ ?_ ?_
        · intro hF; exact absurd hF (by decide)
        clear hK K1
        try simp only [Act.put, pz]
        refine wpAnyU_done (by kernel_rfl) ?_ _
        have hTA := hT6.frame (Nat.le_refl _) (Nat.le_refl _) (fun k _ hk => hA_old (o := .cells #[ptrV b6] 30) hk)
        have NP6 := NN6.push hTA sza sza (by intro y hy; simp at hy; have q1 := fun y h => (MN.row.2.1 y h).1; simp only [World.size_drew]; rcases hy with hy | hy | hy | hy; omega; (have := q1 y hy; omega); omega; omega) (by simp; omega) how6 hgr6 hat6 hlt6
        have K6 : Kp w.heap.size [br] w v6 := Kp.grown (kpa) (by simp; omega) hgr6 (fun k e => .inl (Nat.le_trans (by omega) (NN6.own_ge e)))
        have hrG := (hr6.alloc (.cells #[ptrV b6] 30)).grown hgr6 (fun k e => Nat.le_trans hlim (Nat.le_trans (by omega) (NN6.own_ge e)))
        have lt1G := M1G.lt
        have lt0G := M0G.lt
        replace hr := hrG.setCell (p := ⟨bd, 5, none⟩) (by simp; omega) (.slice (some ⟨g6, 0, none⟩) (bs.length + 1) cap6)
        replace K := K6.setCell (p := ⟨bd, 5, none⟩) (by left; simp; omega) (.slice (some ⟨g6, 0, none⟩) (bs.length + 1) cap6)
        replace M1 := M1G.other (c := bd) 5 (.slice (some ⟨g6, 0, none⟩) (bs.length + 1) cap6) (fun e => by have := MN.notin; simp [← e] at this)
        replace M0 := M0G.other (c := bd) 5 (.slice (some ⟨g6, 0, none⟩) (bs.length + 1) cap6) (fun e => by have := MN.notin; simp [← e] at this)
        replace MN := NP6.hide
        have szW : v6.heap.size ≤ (v6.setCell ⟨bd, 5, none⟩ (.slice (some ⟨g6, 0, none⟩) (bs.length + 1) cap6)).heap.size := by simp
        clear M16 M06 MN6 NN6 nr6 how6 hgr6 hat6 hlt6 d36 d46 M1G M0G m1g hTA hT6 NP6 K6 hrG hr6 hk6 m2 m3 m4 hHeld
        generalize v6.setCell ⟨bd, 5, none⟩ (.slice (some ⟨g6, 0, none⟩) (bs.length + 1) cap6) = W6 at *
        obtain ⟨sv, bs, MN⟩ := MN
        go_wp2
        go_roundg gk
        case measure => omega
        case rel => exact ⟨_, _, _, _, ⟨by omega, hA, by simp; omega⟩, hr, M0, M1, MN, K⟩
    · rw [if_neg c1] at hA
      cases hA
      have hlt0 : ¬ (p : Int) < (toks.length : Int) := by omega
      go_wp2_with fail
      go_quiet (fail)
      have D' := D.drewN nq
      have S' := S.drewN nq
      have L' := L.drewN nq
      have N' := N.drewN nq
      have K' := K.drewN nq
      clear D S L N K d0 d1 d2 d3 g1 g3 hbrw
      generalize wr.drewN nq = wq at *
      have l' := L'.lt
      have lc' := L'.cell
      have lf' := L'.frozen
      have sl' := S'.lt
      have s0' := S'.cell 0
      have s1' := S'.cell 1
      have sf0' := S'.frozen 0
      have sf1' := S'.frozen 1
      simp at s0' s1'
      go_wp2_with fail
      refine wp_region_U (S := (fun W => W.cell? ⟨w.heap.size, 0, none⟩ = some (ptrV bd) ∧ W.cell? ⟨w.heap.size + 1, 0, none⟩ = some (.int .i64 0) ∧ W.cell? ⟨w.heap.size + 1, 1, none⟩ = some (.int .i64 0))) (F := [3]) (by kernel_rfl) (by (first | (simp; done) | (simp [World.cell?_setCell_other, World.cell?_alloc_lt, *]; done))) (fun hHeld => ?_)
      refine tkU 0 (v := ?_) rfl (by kernel_rfl) (fun _ _ _ h => q39 (by decide) (by decide) h) (Or.inl ⟨by rfl, ?_⟩) (by assumption) ?_
      rotate_left
      · intro w hSw; (try dsimp only at hSw); go_simp; try with_reducible rfl
      try simp only [Act.put, pz]
      refine tkU 1 (v := ?_) rfl (by kernel_rfl) (fun _ _ _ h => q39 (by decide) (by decide) h) (Or.inl ⟨by rfl, ?_⟩) (by assumption) ?_
      rotate_left
      · intro w hSw; (try dsimp only at hSw); go_simp; try with_reducible rfl
      try simp only [Act.put, pz]
      refine wpAnyU_one (i := 2) (by kernel_rfl) rfl rfl (fun K1 hK => ?_)
      go_simp
      try dsimp only
      try simp only [sz3]
      refine hK.out _ _ ?_ ?_
      · intro _; exact ⟨(Loc.set (L'.drew) (ptrV bd)).cell, (Blk.other (S'.drew) (c := w.heap.size) 0 (ptrV bd) nnb).cell 0, (Blk.other (S'.drew) (c := w.heap.size) 0 (ptrV bd) nnb).cell 1⟩
      clear hK K1
      try simp only [Act.put, pz]
      refine wpAnyU_one (i := 3) (by kernel_rfl) rfl rfl (fun K1 hK => ?_)
      go_simp
      try dsimp only
      try simp only [sz3]
      refine hK.out _ _ ?_ ?_
      · intro hF; exact absurd hF (by decide)
      clear hK K1
      try simp only [Act.put, pz]
      refine wpAnyU_done (by kernel_rfl) ?_ _
      go_wp2
      refine leaves_cons (f := 72) (args := #[ptrV w.heap.size, ptrV (w.heap.size + 1)]) (by simp) (by simp [go_sem]) ?_
      refine (catch_i _ _ _).mono ?_
      rintro e u' w7 ⟨rfl, rfl, rfl⟩
      simp [Leaves, settle, results, Tryz.results39, go_sem, *]
      have NF := ((N'.setEx (b := w.heap.size) 0 (ptrV bd) (by left; simp)).setEx (b := w.heap.size + 1) 0 (.int .i64 0) (by left; simp)).setEx (b := w.heap.size + 1) 1 (.int .i64 0) (by left; simp)
      exact ⟨bd, rfl, NF.drew.isT rfl rfl, kpa⟩

end Go.Proofs.YtbplaekabeggkaaGreatDoor

/-
  OWN: the lexer, the parser's face and the writer as plain functions on lists: nothing of Go in it.
-/
namespace Go.Proofs.YtbplaekabeggkaaGreatDoor

def isBlank (c : UInt8) : Bool := c == 32 || c == 9 || c == 10 || c == 13
def isLetter (c : UInt8) : Bool := (97 ≤ c && c ≤ 122) || (65 ≤ c && c ≤ 90) || c == 95
def isAlnum (c : UInt8) : Bool := isLetter c || isDig c
def notEnd (c : UInt8) : Bool := c != 10
/-- how many bytes ahead are so -/
def runL (p : UInt8 → Bool) (s : List UInt8) : Nat := (s.takeWhile p).length

/-- how many bytes stand between -/
def skipL : Nat → List UInt8 → Option Nat
  | 0, _ => none
  | k + 1, s =>
    if (s.drop (runL isBlank s)).take 2 == [47, 47] then
      (skipL k ((s.drop (runL isBlank s)).drop (runL notEnd (s.drop (runL isBlank s))))).map fun n => runL isBlank s + (runL notEnd (s.drop (runL isBlank s)) + n)
    else some (runL isBlank s)

def kTypeK : List UInt8 := kType
/-- the keys -/
def keysL : List (List UInt8) := [kType, kStruct, kFunc, kVar, kIf, kElse, kFor, kReturn, kPrint, kNew, kNil, kTrue, kFalse, kInt, kBool, kRead]
/-- the signs, the longer ones ahead -/
def signsX : List (List UInt8) := [[60, 60], [62, 62], [61, 61], [33, 61], [60, 61], [62, 61], [38, 38], [124, 124], [58, 61], [43], [45], [42], [47], [37], [38], [124], [94], [60], [62], [33], [61], [46], [44], [59], [40], [41], [123], [125]]
def isKeyL (s : List UInt8) : Bool := keysL.contains s
def isNameL (s : List UInt8) : Bool := match s with | [] => false | c :: r => isLetter c && r.all isAlnum
def isWordL (s : List UInt8) : Bool := isNameL s && decide (s.length ≤ 12) && !isKeyL s

def wordL (s : List UInt8) : Tok × Int :=
  let t := s.takeWhile isAlnum
  (⟨if isKeyL t then 2 else 1, t, 0⟩, if 12 < t.length then 4 else 0)
def numberL (s : List UInt8) : Tok × Int :=
  let t := s.takeWhile isDig
  (⟨3, t, 0⟩, if ((s.drop t.length).head?.map isLetter).getD false then 1 else (numParse t).2)
def signL (s : List UInt8) : Tok × Int :=
  match signsX.find? (fun x => x.isPrefixOf s) with
  | some x => (⟨4, x, 0⟩, 0)
  | none => (⟨0, [], 0⟩, 1)
def nextL (s : List UInt8) : Tok × Int :=
  if (s.head?.map isLetter).getD false then wordL s else if (s.head?.map isDig).getD false then numberL s else signL s

/-- all tokens from a place on -/
def scanL : Nat → List UInt8 → Nat → List Tok → Option (Res (List Tok))
  | 0, _, _, _ => none
  | k + 1, s, at_, acc =>
    if at_ < s.length then
      if (nextL (s.drop at_)).2 = 0 then
        match skipL (s.length + 1) (s.drop (at_ + (nextL (s.drop at_)).1.text.length)) with
        | some n => scanL k s (at_ + (nextL (s.drop at_)).1.text.length + n) (acc ++ [{ (nextL (s.drop at_)).1 with at_ := at_ }])
        | none => none
      else some (.stop at_ (nextL (s.drop at_)).2)
    else some (.ok acc 0)

/-- lex.Scan -/
def scan (s : List UInt8) : Option (Res (List Tok)) :=
  if 4096 < s.length then some (.stop 4096 4) else
  match skipL (s.length + 1) s with
  | some n => scanL (s.length + 1) s n []
  | none => none

/-- parse.Parse -/
def parseL (k : Nat) (s : List UInt8) : Option (Res T) :=
  match scan s with
  | some (.ok toks _) => match pProg k toks s.length [] 0 with
    | some (.ok ts _) => some (.ok (.mk 1 [] [] 0 0 ts) 0)
    | some (.stop a e) => some (.stop a e)
    | none => none
  | some (.stop a e) => some (.stop a e)
  | none => none

/-- lex.Join -/
def joinL : List (List UInt8) → List UInt8
  | [] => []
  | [x] => x
  | x :: y :: r => x ++ 32 :: joinL (y :: r)

/-- digits of a number -/
def digitsNat : Nat → Nat → List UInt8
  | 0, _ => []
  | k + 1, n => if n < 10 then [UInt8.ofNat (48 + n)] else digitsNat k (n / 10) ++ [UInt8.ofNat (48 + n % 10)]
def itoaL (n : Int) : List UInt8 := if n < 0 then 45 :: digitsNat 20 n.natAbs else digitsNat 20 n.natAbs

def typL (s : List UInt8) : List (List UInt8) :=
  if s.head? = some 42 ∧ isWordL s.tail then [[42], s.tail] else if s = [] then [] else [s]
def commas : List (List (List UInt8)) → List (List UInt8)
  | [] => []
  | [x] => x
  | x :: y :: r => x ++ [44] :: commas (y :: r)
def signStr (n : Int) : List UInt8 := if 1 ≤ n ∧ n ≤ 18 then signsL.getD n.toNat [] else []
/-- a node's tokens out of its kids' -/
def comb (op : Int) (name typ : List UInt8) (n : Int) (ks : List (List (List UInt8))) : List (List UInt8) :=
  let k0 := ks.getD 0 []
  let k1 := ks.getD 1 []
  let k2 := ks.getD 2 []
  if op = 1 then ks.flatten
  else if op = 2 then [kType, name, kStruct, kOpen] ++ (ks.map (· ++ [kSemi])).flatten ++ [kClose]
  else if op = 3 then [kVar, name] ++ typL typ ++ [kSemi]
  else if op = 4 then [kFunc, name, kLpar] ++ commas (ks.take (ks.length - 1)) ++ [kRpar] ++ typL typ ++ ks.getD (ks.length - 1) []
  else if op = 5 then [name] ++ typL typ
  else if op = 6 then [kOpen] ++ ks.flatten ++ [kClose]
  else if op = 10 ∨ op = 11 then [if op = 10 then kIf else kFor] ++ k0 ++ k1 ++ (if 2 < ks.length then [kElse] ++ k2 else [])
  else if op = 7 ∨ op = 8 then [name, if op = 7 then kDef else kEq] ++ k0 ++ [kSemi]
  else if op = 9 then k0 ++ [kDot, name, kEq] ++ k1 ++ [kSemi]
  else if op = 12 then [kPrint, kLpar] ++ k0 ++ [kRpar] ++ [kSemi]
  else if op = 13 then [kReturn] ++ commas ks ++ [kSemi]
  else if op = 14 then k0 ++ [kSemi]
  else if op = 15 then [itoaL n]
  else if op = 16 then [if n % 2 = 1 then kTrue else kFalse]
  else if op = 17 then [kNil]
  else if op = 18 then [name]
  else if op = 19 then [kNew, kLpar, name, kRpar]
  else if op = 22 then [kRead, kLpar, kRpar]
  else if op = 20 then k0 ++ [kDot, name]
  else if op = 21 then [name, kLpar] ++ commas ks ++ [kRpar]
  else if op = 23 then [kLpar, signStr n] ++ k0 ++ [kRpar]
  else if op = 24 then [kLpar] ++ k0 ++ [signStr n] ++ k1 ++ [kRpar]
  else if op = 25 then [kLpar] ++ k0 ++ [kAnds] ++ k1 ++ [kRpar]
  else if op = 26 then [kLpar] ++ k0 ++ [kOrs] ++ k1 ++ [kRpar]
  else []
mutual
def showT : T → List (List UInt8)
  | .mk op name typ n _ kids => comb op name typ n (showTs kids)
def showTs : List T → List (List (List UInt8))
  | [] => []
  | t :: ts => showT t :: showTs ts
end
/-- parse.Show -/
def showL (t : T) : List UInt8 := joinL (showT t)

mutual
/-- Node.Size -/
def sizeT : T → Nat
  | .mk _ _ _ _ _ kids => 1 + sizeTs kids
def sizeTs : List T → Nat
  | [] => 0
  | t :: ts => sizeT t + sizeTs ts
end

end Go.Proofs.YtbplaekabeggkaaGreatDoor

namespace Go.Proofs.YtbplaekabeggkaaGreatDoor
open Go.RowKit

/-- a byte as Go's number -/
@[reducible] def u8V (c : UInt8) : Value := .int .u8 c.toNat
theorem u8_lt (c : UInt8) : (c.toNat : Int) < 256 := by have := c.toNat_lt; omega

theorem u8_eq (c : UInt8) (n : Nat) (hn : n < 256) : ((c.toNat : Int) == (n : Int)) = (c == UInt8.ofNat n) := by
  rw [Bool.eq_iff_iff]
  simp only [beq_iff_eq]
  constructor
  · intro h
    have h' : c.toNat = n := by omega
    rw [← h']; simp
  · rintro rfl
    simp; omega
theorem u8_le (c : UInt8) (n : Nat) (hn : n < 256) : decide ((n : Int) ≤ (c.toNat : Int)) = decide (UInt8.ofNat n ≤ c) := by
  rw [Bool.eq_iff_iff]
  simp only [decide_eq_true_eq, UInt8.le_iff_toNat_le, UInt8.toNat_ofNat']
  have : n % 2 ^ 8 = n := Nat.mod_eq_of_lt hn
  rw [this]; omega
theorem u8_ge (c : UInt8) (n : Nat) (hn : n < 256) : decide ((c.toNat : Int) ≤ (n : Int)) = decide (c ≤ UInt8.ofNat n) := by
  rw [Bool.eq_iff_iff]
  simp only [decide_eq_true_eq, UInt8.le_iff_toNat_le, UInt8.toNat_ofNat']
  have : n % 2 ^ 8 = n := Nat.mod_eq_of_lt hn
  rw [this]; omega

theorem ret_b {a b : Bool} (h : a = b) : Ending.returned (.bool a) = .returned (.bool b) := by rw [h]

set_option maxRecDepth 100000 in
set_option maxHeartbeats 1000000 in
theorem isBlank_i (n : Int) (w : World) : Calls Tryz.prog 61 #[.int .u8 n] w fun e w' => e = .returned (.bool ((n == 32) || (n == 9) || (n == 10) || (n == 13))) ∧ w = w' := by
  go_enter Tryz.func61, Tryz.ntmps61
  go_wp2
  all_goals
    go_ret
    refine ⟨ret_b ?_, rfl⟩
    simp_all
theorem isBlank_c (c : UInt8) (w : World) : Calls Tryz.prog 61 #[u8V c] w fun e w' => e = .returned (.bool (isBlank c)) ∧ w = w' := by
  have h1 := u8_eq c 32 (by decide)
  have h2 := u8_eq c 9 (by decide)
  have h3 := u8_eq c 10 (by decide)
  have h4 := u8_eq c 13 (by decide)
  have hb : isBlank c = (((c.toNat : Int) == 32) || ((c.toNat : Int) == 9) || ((c.toNat : Int) == 10) || ((c.toNat : Int) == 13)) := by
    rw [show (32 : Int) = ((32 : Nat) : Int) from rfl, show (9 : Int) = ((9 : Nat) : Int) from rfl, show (10 : Int) = ((10 : Nat) : Int) from rfl, show (13 : Int) = ((13 : Nat) : Int) from rfl, h1, h2, h3, h4]; rfl
  rw [hb]
  exact isBlank_i _ w
set_option maxRecDepth 100000 in
set_option maxHeartbeats 1000000 in
theorem isDigit_i (n : Int) (w : World) : Calls Tryz.prog 66 #[.int .u8 n] w fun e w' => e = .returned (.bool (decide ((48 : Int) ≤ n) && decide (n ≤ 57))) ∧ w = w' := by
  go_enter Tryz.func66, Tryz.ntmps66
  go_wp2
  all_goals
    go_ret
    refine ⟨ret_b ?_, rfl⟩
    first | (simp_all; done) | (simp_all <;> omega) | (simp; omega) | (symm; simp only [Bool.or_eq_true, Bool.and_eq_true, decide_eq_true_eq, beq_iff_eq, Bool.or_eq_false_iff, Bool.and_eq_false_iff, decide_eq_false_iff_not, beq_eq_false_iff_ne] at *; omega) | (rw [Bool.eq_iff_iff]; simp only [Bool.or_eq_true, Bool.and_eq_true, decide_eq_true_eq, beq_iff_eq]; omega)
theorem isDigit_c (c : UInt8) (w : World) : Calls Tryz.prog 66 #[u8V c] w fun e w' => e = .returned (.bool (isDig c)) ∧ w = w' := by
  have h1 := u8_le c 48 (by decide)
  have h2 := u8_ge c 57 (by decide)
  have hb : isDig c = (decide ((48 : Int) ≤ (c.toNat : Int)) && decide ((c.toNat : Int) ≤ 57)) := by
    rw [show (48 : Int) = ((48 : Nat) : Int) from rfl, show (57 : Int) = ((57 : Nat) : Int) from rfl, h1, h2]; rfl
  rw [hb]
  exact isDigit_i _ w
set_option maxRecDepth 100000 in
set_option maxHeartbeats 2000000 in
theorem isLetter_i (n : Int) (w : World) : Calls Tryz.prog 64 #[.int .u8 n] w fun e w' => e = .returned (.bool ((decide ((97 : Int) ≤ n) && decide (n ≤ 122)) || (decide ((65 : Int) ≤ n) && decide (n ≤ 90)) || (n == 95))) ∧ w = w' := by
  go_enter Tryz.func64, Tryz.ntmps64
  go_wp2
  all_goals
    go_ret
    refine ⟨ret_b ?_, rfl⟩
    first | (simp_all; done) | (simp_all <;> omega) | (simp; omega) | (symm; simp only [Bool.or_eq_true, Bool.and_eq_true, decide_eq_true_eq, beq_iff_eq, Bool.or_eq_false_iff, Bool.and_eq_false_iff, decide_eq_false_iff_not, beq_eq_false_iff_ne] at *; omega) | (rw [Bool.eq_iff_iff]; simp only [Bool.or_eq_true, Bool.and_eq_true, decide_eq_true_eq, beq_iff_eq]; omega)
theorem isLetter_c (c : UInt8) (w : World) : Calls Tryz.prog 64 #[u8V c] w fun e w' => e = .returned (.bool (isLetter c)) ∧ w = w' := by
  have h1 := u8_le c 97 (by decide)
  have h2 := u8_ge c 122 (by decide)
  have h3 := u8_le c 65 (by decide)
  have h4 := u8_ge c 90 (by decide)
  have h5 := u8_eq c 95 (by decide)
  have hb : isLetter c = ((decide ((97 : Int) ≤ (c.toNat : Int)) && decide ((c.toNat : Int) ≤ 122)) || (decide ((65 : Int) ≤ (c.toNat : Int)) && decide ((c.toNat : Int) ≤ 90)) || ((c.toNat : Int) == 95)) := by
    rw [show (97 : Int) = ((97 : Nat) : Int) from rfl, show (122 : Int) = ((122 : Nat) : Int) from rfl, show (65 : Int) = ((65 : Nat) : Int) from rfl, show (90 : Int) = ((90 : Nat) : Int) from rfl, show (95 : Int) = ((95 : Nat) : Int) from rfl, h1, h2, h3, h4, h5]; rfl
  rw [hb]
  exact isLetter_i _ w
set_option maxRecDepth 100000 in
set_option maxHeartbeats 400000 in
theorem notEnd_i (n : Int) (w : World) : Calls Tryz.prog 63 #[.int .u8 n] w fun e w' => e = .returned (.bool (n != 10)) ∧ w = w' := by
  go_enter Tryz.func63, Tryz.ntmps63
  go_wp2
  go_ret
  exact ⟨rfl, rfl⟩
theorem notEnd_c (c : UInt8) (w : World) : Calls Tryz.prog 63 #[u8V c] w fun e w' => e = .returned (.bool (notEnd c)) ∧ w = w' := by
  have h1 := u8_eq c 10 (by decide)
  have hb : notEnd c = ((c.toNat : Int) != 10) := by
    rw [show (10 : Int) = ((10 : Nat) : Int) from rfl, bne, h1]; rfl
  rw [hb]
  exact notEnd_i _ w
set_option maxRecDepth 100000 in
set_option maxHeartbeats 400000 in
theorem alnum_c (f : FuncId) (hf : f = 91 ∨ f = 151) (c : UInt8) (w : World) : Calls Tryz.prog f #[u8V c] w fun e w' => e = .returned (.bool (isAlnum c)) ∧ w = w' := by
  have hL := isLetter_c c
  have hD := isDigit_c c
  unfold isAlnum
  generalize isLetter c = l at *
  generalize isDig c = d at *
  rcases hf with rfl | rfl
  · cases l with
    | true =>
      go_enter Tryz.func91, Tryz.ntmps91
      go_wp2_with fail
      refine (hL _).mono ?_
      rintro e w1 ⟨rfl, rfl⟩
      go_wp2
      go_ret
      exact ⟨rfl, rfl⟩
    | false =>
      go_enter Tryz.func91, Tryz.ntmps91
      go_wp2_with fail
      refine (hL _).mono ?_
      rintro e w1 ⟨rfl, rfl⟩
      go_wp2_with fail
      refine (hD _).mono ?_
      rintro e w2 ⟨rfl, rfl⟩
      go_wp2
      go_ret
      exact ⟨rfl, rfl⟩
  · cases l with
    | true =>
      go_enter Tryz.func151, Tryz.ntmps151
      go_wp2_with fail
      refine (hL _).mono ?_
      rintro e w1 ⟨rfl, rfl⟩
      go_wp2
      go_ret
      exact ⟨rfl, rfl⟩
    | false =>
      go_enter Tryz.func151, Tryz.ntmps151
      go_wp2_with fail
      refine (hL _).mono ?_
      rintro e w1 ⟨rfl, rfl⟩
      go_wp2_with fail
      refine (hD _).mono ?_
      rintro e w2 ⟨rfl, rfl⟩
      go_wp2
      go_ret
      exact ⟨rfl, rfl⟩

theorem run_full (p : UInt8 → Bool) : ∀ (l : List UInt8) (k : Nat), k ≤ l.length → (∀ j, j < k → ∀ c, l[j]? = some c → p c = true) → (k = l.length ∨ ∃ c, l[k]? = some c ∧ p c = false) → runL p l = k
  | [], k, hk, _, _ => by simp at hk; subst hk; rfl
  | c :: l, 0, _, _, h2 => by
    rcases h2 with h2 | ⟨d, hd, hp⟩
    · simp at h2
    · simp at hd; subst hd
      simp [runL, List.takeWhile_cons, hp]
  | c :: l, k + 1, hk, h1, h2 => by
    have hc := h1 0 (by omega) c rfl
    have := run_full p l k (by simpa using hk) (fun j hj d hd => h1 (j + 1) (by omega) d (by simpa using hd)) (by
      rcases h2 with h2 | ⟨d, hd, hp⟩
      · left; simpa using h2
      · right; exact ⟨d, by simpa using hd, hp⟩)
    unfold runL at this ⊢
    rw [List.takeWhile_cons, hc]
    simp [this]

theorem ba_get (s : ByteArray) (k : Nat) (h : k < s.size) : s.toList[k]? = some s[k] := by
  rw [ByteArray.toList_eq]
  have : k < s.data.toList.length := by simpa using h
  rw [List.getElem?_eq_getElem this]
  rfl
theorem ba_len (s : ByteArray) : s.toList.length = s.size := by rw [ByteArray.toList_eq, Array.length_toList]; rfl

set_option maxRecDepth 100000 in
set_option maxHeartbeats 1000000 in
theorem run_c (F : FuncId) (p : UInt8 → Bool) (hF : ∀ c w, Calls Tryz.prog F #[u8V c] w fun e w' => e = .returned (.bool (p c)) ∧ w = w')
    (hcf : ∀ (c : UInt8) (w : World), (callFunc F #[u8V c]).run Tryz.prog w = .ok (.enter F #[u8V c]) w) (s : ByteArray) (w : World) (hs : s.size ≤ 100000) :
    Calls Tryz.prog 60 #[.string s, .func (.func F) #[] #[]] w fun e w' => e = .returned (.int .i64 (runL p s.toList)) ∧ w = w' := by
  go_enter Tryz.func60, Tryz.ntmps60
  go_wp2
  go_loop [5] (fun i => ∃ k : Nat, k ≤ s.size ∧ i = .int .i64 k ∧ Go.Aside (∀ j, j < k → ∀ c, s.toList[j]? = some c → p c = true)) (fun i => s.size - (intOf i).toNat)
  case atStart => exact ⟨0, Nat.zero_le _, rfl, fun j hj => absurd hj (by omega)⟩
  case round =>
    obtain ⟨k, hk, rfl, A⟩ := hrel
    by_cases hlt : k < s.size
    · have hg := ba_get s k hlt
      have hc := hF s[k]
      cases hp : p s[k] with
      | true =>
        rw [hp] at hc
        have A2 : Go.Aside (∀ j, j < k + 1 → ∀ c, s.toList[j]? = some c → p c = true) := by
          intro j hj c hx
          rcases Nat.lt_or_ge j k with h | h
          · exact A.out j h c hx
          · obtain rfl : j = k := by omega
            rw [hg] at hx; cases hx; exact hp
        clear hg hp A
        go_wp2_with fail
        refine (hc _).mono ?_
        rintro e w1 ⟨rfl, rfl⟩
        go_wp2
        go_round
        case rel => exact ⟨k + 1, by omega, by go_num, A2⟩
        case measure => simp [intOf]; omega
      | false =>
        rw [hp] at hc
        have HF := Lib.hid (run_full p s.toList k (by rw [ba_len]; exact hk) A.out (.inr ⟨_, hg, hp⟩))
        clear hg hp A
        go_wp2_with fail
        refine (hc _).mono ?_
        rintro e w1 ⟨rfl, rfl⟩
        go_wp2
        go_ret
        exact ⟨by rw [HF.out]; rfl, rfl⟩
    · have HF := Lib.hid (run_full p s.toList k (by rw [ba_len]; exact hk) A.out (.inl (by rw [ba_len]; omega)))
      clear A
      go_wp2
      go_ret
      exact ⟨by rw [HF.out]; rfl, rfl⟩
theorem run_blank (s : ByteArray) (w : World) (hs : s.size ≤ 100000) : Calls Tryz.prog 60 #[.string s, .func (.func 61) #[] #[]] w fun e w' => e = .returned (.int .i64 (runL isBlank s.toList)) ∧ w = w' :=
  run_c 61 isBlank isBlank_c (fun _ _ => by kernel_rfl) s w hs
theorem run_digit (s : ByteArray) (w : World) (hs : s.size ≤ 100000) : Calls Tryz.prog 60 #[.string s, .func (.func 66) #[] #[]] w fun e w' => e = .returned (.int .i64 (runL isDig s.toList)) ∧ w = w' :=
  run_c 66 isDig isDigit_c (fun _ _ => by kernel_rfl) s w hs
theorem run_notEnd (s : ByteArray) (w : World) (hs : s.size ≤ 100000) : Calls Tryz.prog 60 #[.string s, .func (.func 63) #[] #[]] w fun e w' => e = .returned (.int .i64 (runL notEnd s.toList)) ∧ w = w' :=
  run_c 63 notEnd notEnd_c (fun _ _ => by kernel_rfl) s w hs
theorem run_alnum (s : ByteArray) (w : World) (hs : s.size ≤ 100000) : Calls Tryz.prog 60 #[.string s, .func (.func 91) #[] #[]] w fun e w' => e = .returned (.int .i64 (runL isAlnum s.toList)) ∧ w = w' :=
  run_c 91 isAlnum (alnum_c 91 (.inl rfl)) (fun _ _ => by kernel_rfl) s w hs
theorem run_alnum2 (s : ByteArray) (w : World) (hs : s.size ≤ 100000) : Calls Tryz.prog 60 #[.string s, .func (.func 151) #[] #[]] w fun e w' => e = .returned (.int .i64 (runL isAlnum s.toList)) ∧ w = w' :=
  run_c 151 isAlnum (alnum_c 151 (.inr rfl)) (fun _ _ => by kernel_rfl) s w hs

end Go.Proofs.YtbplaekabeggkaaGreatDoor

/-
  OWN: tokens joined with one blank each are scanned as the same tokens.
-/
namespace Go.Proofs.YtbplaekabeggkaaGreatDoor

theorem takeWhile_all (p : UInt8 → Bool) (s : List UInt8) : ∀ c ∈ s.takeWhile p, p c = true := by
  induction s with
  | nil => simp
  | cons d r ih =>
    intro c hc
    rw [List.takeWhile_cons] at hc
    split at hc
    · rcases List.mem_cons.1 hc with rfl | hc
      · assumption
      · exact ih c hc
    · cases hc
theorem takeWhile_le (p : UInt8 → Bool) (s : List UInt8) : (s.takeWhile p).length ≤ s.length := by
  induction s with
  | nil => simp
  | cons d r ih =>
    rw [List.takeWhile_cons]
    split
    · simp; exact ih
    · simp
/-- behind a token nothing, or a blank -/
def Rest (r : List UInt8) : Prop := r = [] ∨ ∃ q, r = 32 :: q
theorem Rest.take {r : List UInt8} (h : Rest r) (p : UInt8 → Bool) (hp : p 32 = false) : r.takeWhile p = [] := by
  rcases h with rfl | ⟨q, rfl⟩
  · rfl
  · rw [List.takeWhile_cons, hp]; rfl
theorem takeWhile_app {s r : List UInt8} {p : UInt8 → Bool} (hs : ∀ c ∈ s, p c = true) (hr : Rest r) (hp : p 32 = false) : (s ++ r).takeWhile p = s := by
  rw [List.takeWhile_append_of_pos hs, hr.take p hp, List.append_nil]

theorem prefix_app : ∀ (y x r : List UInt8), (∀ c ∈ y, c ≠ 32) → Rest r → y.isPrefixOf (x ++ r) = y.isPrefixOf x
  | [], _, _, _, _ => by simp
  | c :: y, [], r, hy, hr => by
    rcases hr with rfl | ⟨q, rfl⟩
    · rfl
    · have : (c == 32) = false := by simpa using hy c (by simp)
      simp [List.isPrefixOf, this]
  | c :: y, d :: x, r, hy, hr => by
    have := prefix_app y x r (fun c hc => hy c (by simp [hc])) hr
    simp only [List.cons_append, List.isPrefixOf, this]
theorem find_congr {α : Type} {p q : α → Bool} : ∀ (l : List α), (∀ x ∈ l, p x = q x) → l.find? p = l.find? q
  | [], _ => rfl
  | x :: l, h => by
    rw [List.find?_cons, List.find?_cons, h x (by simp), find_congr l (fun y hy => h y (by simp [hy]))]
theorem signs_noblank : ∀ y ∈ signsX, ∀ c ∈ y, c ≠ 32 := by decide
theorem signs_self : ∀ x ∈ signsX, signsX.find? (fun y => y.isPrefixOf x) = some x := by decide
theorem signs_ne : ∀ x ∈ signsX, x ≠ [] ∧ (x.head?.map isBlank).getD false = false ∧ x.take 2 ≠ [47, 47] ∧ x.head?.map isBlank = some false := by decide
theorem prefix_spec {y s : List UInt8} (h : y.isPrefixOf s = true) : ∃ r, s = y ++ r := by
  obtain ⟨r, hr⟩ := List.isPrefixOf_iff_prefix.1 h
  exact ⟨r, hr.symm⟩

/-- a token by itself, whatever stands behind a blank -/
structure Good (t : Tok) : Prop where
  next : ∀ r, Rest r → nextL (t.text ++ r) = ({ t with at_ := 0 }, 0)
  first : ∃ c q, t.text = c :: q ∧ isBlank c = false
  slash : ∀ r, Rest r → (t.text ++ r).take 2 ≠ [47, 47]

theorem letter_facts {c : UInt8} (h : isLetter c = true) : isBlank c = false ∧ c ≠ 47 ∧ isAlnum c = true := by
  refine ⟨?_, ?_, by simp [isAlnum, h]⟩
  · unfold isBlank
    unfold isLetter at h
    simp only [Bool.or_eq_true, Bool.and_eq_true, decide_eq_true_eq, beq_iff_eq, UInt8.le_iff_toNat_le] at h
    simp only [Bool.or_eq_false_iff, beq_eq_false_iff_ne, ne_eq]
    refine ⟨⟨⟨?_, ?_⟩, ?_⟩, ?_⟩ <;> rintro rfl <;> revert h <;> decide
  · rintro rfl; revert h; decide
theorem digit_facts {c : UInt8} (h : isDig c = true) : isBlank c = false ∧ c ≠ 47 ∧ isLetter c = false := by
  have : ∀ c : UInt8, isDig c = true → isBlank c = false ∧ c ≠ 47 ∧ isLetter c = false := by
    intro c hc
    unfold isDig at hc
    simp only [Bool.and_eq_true, decide_eq_true_eq, UInt8.le_iff_toNat_le] at hc
    obtain ⟨h1, h2⟩ := hc
    have e1 : (48 : UInt8).toNat = 48 := rfl
    have e2 : (57 : UInt8).toNat = 57 := rfl
    rw [e1] at h1
    rw [e2] at h2
    have hv : c = UInt8.ofNat c.toNat := by simp
    have hc : c.toNat = 48 ∨ c.toNat = 49 ∨ c.toNat = 50 ∨ c.toNat = 51 ∨ c.toNat = 52 ∨ c.toNat = 53 ∨ c.toNat = 54 ∨ c.toNat = 55 ∨ c.toNat = 56 ∨ c.toNat = 57 := by omega
    rcases hc with e | e | e | e | e | e | e | e | e | e <;> (rw [hv, e]; decide)
  exact this c h

theorem good_of {s : List UInt8} {t : Tok} {a : Int} (h : nextL s = (⟨t.kind, t.text, a⟩, 0)) : Good t ∧ ∃ r, s = t.text ++ r := by
  obtain ⟨kd, tx, at_⟩ := t
  dsimp only at h ⊢
  unfold nextL at h
  cases s with
  | nil =>
    simp [signL] at h
    revert h
    have : signsX.find? (fun x => x.isPrefixOf []) = none := by decide
    rw [this]
    simp
  | cons c q =>
    by_cases h1 : isLetter c = true
    · simp only [List.head?_cons, Option.map_some, Option.getD_some, h1, if_true] at h
      unfold wordL at h
      dsimp only at h
      simp only [Prod.mk.injEq, Tok.mk.injEq] at h
      obtain ⟨⟨hk, hx, ha⟩, he⟩ := h
      obtain ⟨f1, f2, f3⟩ := letter_facts h1
      have hc : tx = c :: q.takeWhile isAlnum := by rw [← hx, List.takeWhile_cons, f3]; rfl
      have hall : ∀ d ∈ tx, isAlnum d = true := by rw [← hx]; exact takeWhile_all _ _
      refine ⟨⟨fun r hr => ?_, ⟨c, _, hc, f1⟩, fun r hr e => ?_⟩, ?_⟩
      · dsimp only
        unfold nextL
        have hh : (tx ++ r).head? = some c := by rw [hc]; rfl
        rw [hh]
        simp only [Option.map_some, Option.getD_some, h1, if_true]
        unfold wordL
        rw [takeWhile_app hall hr (by decide)]
        rw [hx] at hk he
        simp only [hk, he]
      · rw [hc] at e
        simp only [List.cons_append, List.take_succ_cons, List.cons.injEq] at e
        exact f2 e.1
      · exact ⟨(c :: q).dropWhile isAlnum, by rw [← hx, List.takeWhile_append_dropWhile]⟩
    · have h1' : isLetter c = false := by simpa using h1
      by_cases h2 : isDig c = true
      · simp only [List.head?_cons, Option.map_some, Option.getD_some, h1', h2, Bool.false_eq_true, if_false, if_true] at h
        unfold numberL at h
        dsimp only at h
        simp only [Prod.mk.injEq, Tok.mk.injEq] at h
        obtain ⟨⟨hk, hx, ha⟩, he⟩ := h
        obtain ⟨f1, f2, f3⟩ := digit_facts h2
        have hc : tx = c :: q.takeWhile isDig := by rw [← hx, List.takeWhile_cons, h2]; rfl
        have hall : ∀ d ∈ tx, isDig d = true := by rw [← hx]; exact takeWhile_all _ _
        have hn : (numParse tx).2 = 0 := by
          split at he
          · cases he
          · rw [← hx]; exact he
        refine ⟨⟨fun r hr => ?_, ⟨c, _, hc, f1⟩, fun r hr e => ?_⟩, ?_⟩
        · dsimp only
          unfold nextL
          have hh : (tx ++ r).head? = some c := by rw [hc]; rfl
          rw [hh]
          simp only [Option.map_some, Option.getD_some, h1', h2, Bool.false_eq_true, if_false, if_true]
          unfold numberL
          rw [takeWhile_app hall hr (by decide)]
          have hd : ((List.drop tx.length (tx ++ r)).head?.map isLetter).getD false = false := by
            rw [List.drop_left]
            rcases hr with rfl | ⟨z, rfl⟩
            · rfl
            · rfl
          simp only [hd, hn, hk, Bool.false_eq_true, if_false]
        · rw [hc] at e
          simp only [List.cons_append, List.take_succ_cons, List.cons.injEq] at e
          exact f2 e.1
        · exact ⟨(c :: q).dropWhile isDig, by rw [← hx, List.takeWhile_append_dropWhile]⟩
      · have h2' : isDig c = false := by simpa using h2
        simp only [List.head?_cons, Option.map_some, Option.getD_some, h1', h2', Bool.false_eq_true, if_false] at h
        unfold signL at h
        split at h
        · rename_i x hx
          simp only [Prod.mk.injEq, Tok.mk.injEq] at h
          obtain ⟨⟨hk, hxt, ha⟩, he⟩ := h
          subst hxt
          have hm := List.mem_of_find?_eq_some hx
          have hp := List.find?_some hx
          obtain ⟨r0, hr0⟩ := prefix_spec hp
          obtain ⟨g1, g2, g3, g4⟩ := signs_ne x hm
          obtain ⟨d, x', rfl⟩ : ∃ d x', x = d :: x' := by
            cases x with
            | nil => exact absurd rfl g1
            | cons d x' => exact ⟨d, x', rfl⟩
          have hdc : d = c := by simp only [List.cons_append, List.cons.injEq] at hr0; exact hr0.1.symm
          refine ⟨⟨fun r hr => ?_, ⟨d, x', rfl, by simpa using g4⟩, fun r hr e => ?_⟩, ⟨r0, hr0⟩⟩
          · dsimp only
            unfold nextL
            have hh : ((d :: x') ++ r).head? = some c := by rw [hdc]; rfl
            rw [hh]
            simp only [Option.map_some, Option.getD_some, h1', h2', Bool.false_eq_true, if_false]
            unfold signL
            rw [find_congr (q := fun y => y.isPrefixOf (d :: x')) signsX (fun y hy => prefix_app y (d :: x') r (signs_noblank y hy) hr), signs_self _ hm]
            simp only [hk]
          · apply g3
            cases x' with
            | nil =>
              rcases hr with rfl | ⟨z, rfl⟩
              · simp at e
              · simp at e
            | cons d2 x'' => simpa using e
        · simp at h

theorem runL_le (p : UInt8 → Bool) (s : List UInt8) : runL p s ≤ s.length := takeWhile_le p s
theorem skipL_le : ∀ (k : Nat) (s : List UInt8) (n : Nat), skipL k s = some n → n ≤ s.length
  | 0, _, _, h => by simp [skipL] at h
  | k + 1, s, n, h => by
    rw [skipL] at h
    have h1 := runL_le isBlank s
    split at h
    · cases hX : skipL k ((s.drop (runL isBlank s)).drop (runL notEnd (s.drop (runL isBlank s)))) with
      | none => rw [hX] at h; cases h
      | some m =>
        rw [hX] at h
        simp only [Option.map_some, Option.some.injEq] at h
        have := skipL_le k _ m hX
        have h2 := runL_le notEnd (s.drop (runL isBlank s))
        simp only [List.length_drop] at this h2
        omega
    · cases h; exact h1
theorem skipL_tot : ∀ (k : Nat) (s : List UInt8), s.length + 1 ≤ k → skipL k s ≠ none
  | 0, _, h => by omega
  | k + 1, s, h => by
    rw [skipL]
    split
    · rename_i h1
      have h2 : 1 ≤ runL notEnd (s.drop (runL isBlank s)) := by
        simp only [beq_iff_eq] at h1
        generalize s.drop (runL isBlank s) = u at h1
        cases u with
        | nil => simp at h1
        | cons c u =>
          simp only [List.take_succ_cons, List.cons.injEq] at h1
          obtain ⟨rfl, -⟩ := h1
          have hn : notEnd 47 = true := by decide
          simp [runL, List.takeWhile_cons, hn]
      have h4 : s.drop (runL isBlank s) ≠ [] := by
        intro e
        rw [e] at h1
        simp at h1
      have h5 : 0 < s.length - runL isBlank s := by
        rcases Nat.eq_zero_or_pos (s.length - runL isBlank s) with e | e
        · exact absurd (List.drop_eq_nil_of_le (by omega)) h4
        · exact e
      have := skipL_tot k ((s.drop (runL isBlank s)).drop (runL notEnd (s.drop (runL isBlank s)))) (by simp only [List.length_drop]; omega)
      cases hX : skipL k ((s.drop (runL isBlank s)).drop (runL notEnd (s.drop (runL isBlank s)))) with
      | none => exact absurd hX this
      | some m => simp
    · simp

/-- what the scan gives -/
theorem scanL_spec (s : List UInt8) : ∀ (k at_ : Nat) (acc l : List Tok) (p : Nat), at_ ≤ s.length → scanL k s at_ acc = some (.ok l p) →
    p = 0 ∧ ∃ new, l = acc ++ new ∧ (∀ t ∈ new, Good t ∧ (at_ : Int) ≤ t.at_ ∧ t.at_ < s.length) ∧ new.Pairwise (fun a b => a.at_ < b.at_) ∧ at_ + (new.map fun t => t.text.length).sum ≤ s.length ∧ at_ + new.length ≤ s.length
  | 0, _, _, _, _, _, h => by simp [scanL] at h
  | k + 1, at_, acc, l, p, hle, h => by
    rw [scanL] at h
    split at h
    · rename_i hlt
      split at h
      · rename_i he
        cases hS : skipL (s.length + 1) (s.drop (at_ + (nextL (s.drop at_)).1.text.length)) with
        | none => rw [hS] at h; cases h
        | some n =>
          rw [hS] at h
          dsimp only at h
          have hn := skipL_le _ _ _ hS
          generalize hX : nextL (s.drop at_) = x at *
          obtain ⟨⟨kd, tx, a0⟩, er⟩ := x
          dsimp only at *
          subst he
          obtain ⟨hg, r, hr⟩ := good_of (t := ⟨kd, tx, at_⟩) hX
          dsimp only at hr
          have hl1 : tx.length + r.length = s.length - at_ := by have := congrArg List.length hr; simp only [List.length_drop, List.length_append] at this; omega
          have hl2 : 1 ≤ tx.length := by obtain ⟨c, q, e, -⟩ := hg.first; dsimp only at e; rw [e]; simp
          simp only [List.length_drop] at hn
          obtain ⟨hp, new, rfl, h1, h2, h3, h4⟩ := scanL_spec s k _ _ _ _ (by omega) h
          refine ⟨hp, ⟨kd, tx, at_⟩ :: new, by simp, ?_, ?_, ?_, ?_⟩
          · intro t ht
            rcases List.mem_cons.1 ht with rfl | ht
            · exact ⟨hg, by simp, by simp; omega⟩
            · have := h1 t ht
              exact ⟨this.1, by have := this.2.1; push_cast at this; omega, this.2.2⟩
          · rw [List.pairwise_cons]
            refine ⟨fun t ht => ?_, h2⟩
            have := (h1 t ht).2.1
            push_cast at this
            dsimp only
            omega
          · simp only [List.map_cons, List.sum_cons]; omega
          · simp only [List.length_cons]; omega
      · cases h
    · cases h
      exact ⟨rfl, [], by simp, by simp, by simp, by simpa using hle, by simpa using hle⟩

theorem scanL_tot (s : List UInt8) : ∀ (k at_ : Nat) (acc : List Tok), s.length - at_ + 1 ≤ k → scanL k s at_ acc ≠ none
  | 0, _, _, h => by omega
  | k + 1, at_, acc, h => by
    rw [scanL]
    split
    · rename_i hlt
      split
      · rename_i he
        cases hS : skipL (s.length + 1) (s.drop (at_ + (nextL (s.drop at_)).1.text.length)) with
        | none => exact absurd hS (skipL_tot _ _ (by simp only [List.length_drop]; omega))
        | some n =>
          dsimp only
          refine scanL_tot s k _ _ ?_
          generalize hX : nextL (s.drop at_) = x at *
          obtain ⟨⟨kd, tx, a0⟩, er⟩ := x
          dsimp only at *
          subst he
          obtain ⟨hg, r, hr⟩ := good_of (t := ⟨kd, tx, at_⟩) hX
          have hl2 : 1 ≤ tx.length := by obtain ⟨c, q, e, -⟩ := hg.first; dsimp only at e; rw [e]; simp
          omega
      · simp
    · simp

theorem scan_tot (s : List UInt8) : scan s ≠ none := by
  unfold scan
  split
  · simp
  cases hS : skipL (s.length + 1) s with
  | none => exact absurd hS (skipL_tot _ _ (by omega))
  | some n => exact scanL_tot s _ _ _ (by omega)

theorem scan_spec {s : List UInt8} {l : List Tok} {p : Nat} (h : scan s = some (.ok l p)) : p = 0 ∧ s.length ≤ 4096 ∧ (∀ t ∈ l, Good t ∧ (0 : Int) ≤ t.at_ ∧ t.at_ < s.length) ∧ l.Pairwise (fun a b => a.at_ < b.at_) ∧ (l.map fun t => t.text.length).sum ≤ s.length ∧ l.length ≤ s.length := by
  unfold scan at h
  split at h
  · cases h
  rename_i h4
  cases hS : skipL (s.length + 1) s with
  | none => rw [hS] at h; cases h
  | some n =>
    rw [hS] at h
    have := skipL_le _ _ _ hS
    obtain ⟨hp, new, hl, h1, h2, h3, h4⟩ := scanL_spec s _ n [] l p this h
    simp only [List.nil_append] at hl
    subst hl
    exact ⟨hp, by omega, fun t ht => ⟨(h1 t ht).1, by have := (h1 t ht).2.1; omega, (h1 t ht).2.2⟩, h2, by omega, by omega⟩

/-- tokens at the places where they stand when they are joined -/
def placed : Nat → List Tok → List Tok
  | _, [] => []
  | at_, t :: r => { t with at_ := at_ } :: placed (at_ + t.text.length + 1) r

theorem joinL_cons (x : List UInt8) (xs : List (List UInt8)) : ∃ r, joinL (x :: xs) = x ++ r ∧ Rest r ∧ (xs ≠ [] → r = 32 :: joinL xs) ∧ (xs = [] → r = []) := by
  cases xs with
  | nil => exact ⟨[], by simp [joinL], .inl rfl, fun h => absurd rfl h, fun _ => rfl⟩
  | cons y r => exact ⟨32 :: joinL (y :: r), by simp [joinL], .inr ⟨_, rfl⟩, fun _ => rfl, fun h => by cases h⟩

theorem skip_join {t : Tok} {r : List UInt8} (hg : Good t) (hr : Rest r) (k : Nat) : skipL (k + 1) (t.text ++ r) = some 0 := by
  obtain ⟨c, q, e, hb⟩ := hg.first
  have h0 : runL isBlank (t.text ++ r) = 0 := by rw [e]; simp [runL, hb]
  rw [skipL, h0, List.drop_zero, if_neg (by simpa using hg.slash r hr)]
theorem skip_join1 {t : Tok} {r : List UInt8} (hg : Good t) (hr : Rest r) (k : Nat) : skipL (k + 1) (32 :: (t.text ++ r)) = some 1 := by
  obtain ⟨c, q, e, hb⟩ := hg.first
  have h0 : runL isBlank (32 :: (t.text ++ r)) = 1 := by
    rw [e]
    have hb32 : isBlank 32 = true := by decide
    simp [runL, hb, hb32]
  rw [skipL, h0, List.drop_succ_cons, List.drop_zero, if_neg (by simpa using hg.slash r hr)]

theorem scan_join : ∀ (ts : List Tok) (s pre : List UInt8) (acc : List Tok) (k : Nat), s = pre ++ joinL (ts.map (·.text)) → (∀ t ∈ ts, Good t) → ts.length < k → scanL k s pre.length acc = some (.ok (acc ++ placed pre.length ts) 0)
  | [], s, pre, acc, 0, _, _, h => by simp at h
  | [], s, pre, acc, k + 1, hs, _, _ => by
    rw [scanL, if_neg (by rw [hs]; simp [joinL])]
    simp [placed]
  | t :: ts, s, pre, acc, 0, _, _, h => by simp at h
  | t :: ts, s, pre, acc, k + 1, hs, hg, hk => by
    obtain ⟨r, hj, hr, hr1, hr2⟩ := joinL_cons t.text (ts.map (·.text))
    rw [List.map_cons, hj] at hs
    have hgt := hg t (by simp)
    have hd : s.drop pre.length = t.text ++ r := by rw [hs]; simp
    have hn : nextL (s.drop pre.length) = ({ t with at_ := 0 }, 0) := by rw [hd]; exact hgt.next r hr
    have hl : 1 ≤ t.text.length := by obtain ⟨c, q, e, -⟩ := hgt.first; rw [e]; simp
    have hdd : s.drop (pre.length + t.text.length) = r := by rw [hs, ← List.append_assoc, ← List.length_append]; simp
    rw [scanL, if_pos (by rw [hs]; simp; omega), hn]
    dsimp only
    rw [if_pos rfl, hdd]
    cases ts with
    | nil =>
      have := hr2 rfl
      subst this
      have h0 : skipL (s.length + 1) [] = some 0 := by simp [skipL, runL]
      rw [h0]
      dsimp only
      have hk' : 0 < k := by simpa using hk
      obtain ⟨k, rfl⟩ : ∃ j, k = j + 1 := ⟨k - 1, by omega⟩
      rw [scanL, if_neg (by rw [hs]; simp)]
      simp [placed]
    | cons y ts =>
      have := hr1 (by simp)
      subst this
      have hy := hg y (by simp)
      obtain ⟨r', hj', hr', -, -⟩ := joinL_cons y.text (ts.map (·.text))
      have h1 : skipL (s.length + 1) (32 :: joinL (List.map (·.text) (y :: ts))) = some 1 := by
        rw [List.map_cons, hj']
        exact skip_join1 hy hr' _
      rw [h1]
      dsimp only
      have := scan_join (y :: ts) s (pre ++ t.text ++ [32]) (acc ++ [{ t with at_ := pre.length }]) k (by rw [hs]; simp) (fun z hz => hg z (by simp [hz])) (by simpa using hk)
      have e : (pre ++ t.text ++ [32]).length = pre.length + t.text.length + 1 := by simp; omega
      rw [e] at this
      rw [this]
      simp [placed]

theorem joinL_length (l : List (List UInt8)) : (joinL l).length ≤ (l.map List.length).sum + l.length := by
  induction l with
  | nil => simp [joinL]
  | cons x xs ih =>
    cases xs with
    | nil => simp [joinL]
    | cons y r =>
      simp only [joinL, List.length_append, List.length_cons, List.map_cons, List.sum_cons] at ih ⊢
      omega

theorem placed_get : ∀ (ts : List Tok) (a i : Nat), ∀ t, ts[i]? = some t → ∃ b, (placed a ts)[i]? = some { t with at_ := b }
  | [], _, _, _, h => by simp at h
  | x :: xs, a, 0, t, h => by simp at h; subst h; exact ⟨a, rfl⟩
  | x :: xs, a, i + 1, t, h => by
    simp only [List.getElem?_cons_succ] at h
    simpa [placed] using placed_get xs _ i t h
theorem placed_length : ∀ (ts : List Tok) (a : Nat), (placed a ts).length = ts.length
  | [], _ => rfl
  | x :: xs, a => by simp only [placed, List.length_cons, placed_length xs]

theorem scan_joined {s : List UInt8} {l : List Tok} {p : Nat} (h : scan s = some (.ok l p)) (hs : s.length ≤ 2048) : scan (joinL (l.map (·.text))) = some (.ok (placed 0 l) 0) := by
  obtain ⟨-, -, h1, -, h3, h4⟩ := scan_spec h
  have hl := joinL_length (l.map (·.text))
  rw [List.map_map, List.length_map] at hl
  have hsum : (l.map (List.length ∘ fun x => x.text)).sum = (l.map fun t => t.text.length).sum := rfl
  rw [hsum] at hl
  unfold scan
  rw [if_neg (by omega)]
  have hsk : skipL ((joinL (l.map (·.text))).length + 1) (joinL (l.map (·.text))) = some 0 := by
    cases l with
    | nil => simp [joinL, skipL, runL]
    | cons y ts =>
      obtain ⟨r', hj', hr', -, -⟩ := joinL_cons y.text (ts.map (·.text))
      rw [List.map_cons, hj']
      exact skip_join (h1 y (by simp)).1 hr' _
  rw [hsk]
  dsimp only
  have hlen : l.length ≤ (joinL (l.map (·.text))).length := by
    clear hsk hsum hl h
    have hg : ∀ t ∈ l, Good t := fun t ht => (h1 t ht).1
    clear h1 h3 h4 hs
    induction l with
    | nil => simp
    | cons y ts ih =>
      obtain ⟨r', hj', hr', h5, h6⟩ := joinL_cons y.text (ts.map (·.text))
      obtain ⟨c, q, e, -⟩ := (hg y (by simp)).first
      rw [List.map_cons, hj']
      have := ih (fun t ht => hg t (by simp [ht]))
      cases ts with
      | nil => rw [e]; simp
      | cons z zs =>
        rw [h5 (by simp), e]
        simp only [List.length_append, List.length_cons] at this ⊢
        simp only [List.map_cons] at this ⊢
        omega
  have := scan_join l (joinL (l.map (·.text))) [] [] ((joinL (l.map (·.text))).length + 1) (by simp) (fun t ht => (h1 t ht).1) (by omega)
  simpa using this

end Go.Proofs.YtbplaekabeggkaaGreatDoor

namespace Go.Proofs.YtbplaekabeggkaaGreatDoor
open Go.RowKit

theorem isPrefix_take : ∀ (p s : List UInt8), p.isPrefixOf s = (decide (p.length ≤ s.length) && (s.take p.length == p))
  | [], s => by simp
  | c :: p, [] => by simp
  | c :: p, d :: s => by
    rw [List.isPrefixOf, isPrefix_take p s]
    rw [Bool.eq_iff_iff]
    simp only [Bool.and_eq_true, beq_iff_eq, decide_eq_true_eq, List.length_cons, List.take_succ_cons, List.cons.injEq]
    constructor
    · rintro ⟨rfl, h1, h2⟩; exact ⟨by omega, rfl, h2⟩
    · rintro ⟨h1, rfl, h2⟩; exact ⟨rfl, by omega, h2⟩

theorem ba_extract (s : ByteArray) (a b : Nat) : (s.extract a b).toList = (s.toList.drop a).take (b - a) := by
  rw [ByteArray.toList_eq, ByteArray.toList_eq, ByteArray.data_extract, Array.toList_extract]
@[go_sem] theorem B_drop (l : List UInt8) (n : Nat) : (B l).extract n l.length = B (l.drop n) := by
  rw [← B_of ((B l).extract n l.length), ba_extract, B_toList, List.take_of_length_le (by simp)]
@[go_sem] theorem B_take (l : List UInt8) (n : Nat) : (B l).extract 0 n = B (l.take n) := by
  rw [← B_of ((B l).extract 0 n), ba_extract, B_toList]; simp

set_option maxRecDepth 100000 in
set_option maxHeartbeats 400000 in
theorem hasPrefix_in (s p : ByteArray) (w : World) (hs : s.size ≤ 1000000) (hp : p.size ≤ 1000000) :
    Calls Tryz.prog 90 #[.string s, .string p] w fun e w' => e = .returned (.bool (p.toList.isPrefixOf s.toList)) ∧ w = w' := by
  rw [isPrefix_take, ba_len, ba_len]
  by_cases h : p.size ≤ s.size
  · go_enter Tryz.func90, Tryz.ntmps90
    go_wp2
    go_ret
    refine ⟨ret_b ?_, rfl⟩
    rw [ba_extract]
    simp [h]
  · go_enter Tryz.func90, Tryz.ntmps90
    go_wp2
    go_ret
    refine ⟨ret_b ?_, rfl⟩
    simp [h]
set_option maxRecDepth 100000 in
set_option maxHeartbeats 400000 in
theorem hasPrefix_c (s p : ByteArray) (w : World) (hs : s.size ≤ 1000000) (hp : p.size ≤ 1000000) :
    Calls Tryz.prog 62 #[.string s, .string p] w fun e w' => e = .returned (.bool (p.toList.isPrefixOf s.toList)) ∧ w = w' := by
  have hc := hasPrefix_in s p w hs hp
  generalize p.toList.isPrefixOf s.toList = q at *
  go_enter Tryz.func62, Tryz.ntmps62
  go_wp2_with fail
  refine (hc).mono ?_
  rintro e w1 ⟨rfl, rfl⟩
  go_wp2
  go_ret
  exact ⟨rfl, rfl⟩

theorem skip_prefix (u : List UInt8) : ([47, 47] : List UInt8).isPrefixOf u = (u.take 2 == [47, 47]) := by
  rw [isPrefix_take]
  match u with
  | [] => rfl
  | [_] => simp
  | c :: d :: _ => simp

set_option maxRecDepth 100000 in
set_option maxHeartbeats 1000000 in
theorem skip_c (s : List UInt8) (w : World) (hs : s.length ≤ 10000) (k : Nat) (m : Nat) (hm : skipL k s = some m) :
    Calls Tryz.prog 36 #[.string (B s)] w fun e w' => e = .returned (.int .i64 m) ∧ w = w' := by
  have HM := Lib.hid hm
  clear hm
  go_enter Tryz.func36, Tryz.ntmps36
  go_wp2_with fail
  go_loopg [3] k (fun j i wr => ∃ n q : Nat, i = .int .i64 n ∧ Go.Aside (skipL j (s.drop n) = some q ∧ n + q = m ∧ n ≤ s.length) ∧ wr = w)
  case atStart => exact ⟨0, m, rfl, ⟨by simpa using HM.out, by omega, by omega⟩, rfl⟩
  case round =>
    obtain ⟨n, q, rfl, A, rfl⟩ := hrel
    obtain ⟨hA, hq, hn⟩ := A.out
    clear A HM
    cases gk with
    | zero => simp [skipL] at hA
    | succ gk =>
    rw [skipL] at hA
    have hc1 := fun w1 => run_blank (B (s.drop n)) w1 (by rw [B_size]; simp; omega)
    simp only [B_toList] at hc1
    have ha := runL_le isBlank (s.drop n)
    rw [List.length_drop] at ha
    generalize runL isBlank (s.drop n) = a at *
    rw [List.drop_drop] at hA
    have hp : ∀ w1, Calls Tryz.prog 62 #[.string (B (s.drop (n + a))), .string ⟨#[47, 47]⟩] w1 fun e w' => e = .returned (.bool ((s.drop (n + a)).take 2 == [47, 47])) ∧ w1 = w' := fun w1 => by
      have := hasPrefix_c (B (s.drop (n + a))) ⟨#[47, 47]⟩ w1 (by rw [B_size]; simp; omega) (by decide)
      rw [B_toList, mk_toList, skip_prefix] at this
      exact this
    have hle : n + a ≤ s.length := by omega
    by_cases cc : (List.take 2 (List.drop (n + a) s) == [47, 47]) = true
    · rw [if_pos cc] at hA
      rw [cc] at hp
      have hc2 := fun w1 => run_notEnd (B (s.drop (n + a))) w1 (by rw [B_size]; simp; omega)
      simp only [B_toList] at hc2
      have hb := runL_le notEnd (s.drop (n + a))
      rw [List.length_drop] at hb
      generalize runL notEnd (s.drop (n + a)) = b at *
      rw [List.drop_drop] at hA
      cases hX : skipL gk (s.drop (n + a + b)) with
      | none => rw [hX] at hA; cases hA
      | some q' =>
      rw [hX] at hA
      simp only [Option.map_some, Option.some.injEq] at hA
      have HX := Lib.hid hX
      have hq' : n + a + b + q' = m := by omega
      have HQ := Lib.hid hq'
      clear hX hA hq hq' cc
      go_wp2_with fail
      refine (hc1 _).mono ?_
      rintro e w1 ⟨rfl, rfl⟩
      go_wp2_with fail
      refine (hp _).mono ?_
      rintro e w2 ⟨rfl, rfl⟩
      go_wp2_with fail
      refine (hc2 _).mono ?_
      rintro e w3 ⟨rfl, rfl⟩
      go_wp2
      go_roundg gk
      case measure => omega
      case rel => exact ⟨n + a + b, q', by push_cast; rfl, ⟨HX.out, HQ.out, by omega⟩, rfl⟩
    · rw [if_neg cc] at hA
      rw [Bool.not_eq_true] at cc
      rw [cc] at hp
      cases hA
      have HQ := Lib.hid hq
      clear hq cc
      go_wp2_with fail
      refine (hc1 _).mono ?_
      rintro e w1 ⟨rfl, rfl⟩
      go_wp2_with fail
      refine (hp _).mono ?_
      rintro e w2 ⟨rfl, rfl⟩
      go_wp2
      go_ret
      exact ⟨by rw [← HQ.out]; push_cast; rfl, rfl⟩
end Go.Proofs.YtbplaekabeggkaaGreatDoor
