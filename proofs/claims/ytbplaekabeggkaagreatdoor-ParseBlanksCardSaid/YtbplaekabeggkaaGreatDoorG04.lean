/- PROVED: the law ParseBlanks of layer 4 answers true for every string, as its given card says (the listed package variables as the program lays them); no other condition. The parser, the lexer and the writer of the awake test are walked whole. Text 4 of 16. -/
import Derived.Test.YtbplaekabeggkaaGreatDoorG03
import Derived.Test.YtbplaekabeggkaaGreatDoorG01
set_option linter.unusedSimpArgs false
set_option linter.unusedVariables false
namespace Go.Proofs.YtbplaekabeggkaaGreatDoor
open Go.RowKit

def CNum : Prop := ∀ (s : ByteArray) (w : World), s.size ≤ 100000 → (numParse s.toList).2 = 0 → Calls Tryz.prog 93 #[.string s] w fun e w' => e = .returned (.tuple #[.int .i64 (numParse s.toList).1, .int .i64 (numParse s.toList).2]) ∧ Kp w.heap.size [] w w'

set_option maxRecDepth 100000 in
set_option maxHeartbeats 400000 in
theorem number_c (hN : CNum) (tk : Tok) (w : World) (htl : tk.text.length ≤ 100000) (hnum : (numParse tk.text).2 = 0) :
    Calls Tryz.prog 235 #[.agg #[.int .i64 tk.kind, .string (B tk.text), .int .i64 tk.at_]] w fun e w' => ∃ b, w.heap.size ≤ b ∧ b < w'.heap.size ∧ e = .returned (.agg #[ptrV b]) ∧
      w'.heap[b]? = some (.cells #[.int .i64 15, .string ⟨#[]⟩, .string ⟨#[]⟩, .int .i64 (numParse tk.text).1, .int .i64 tk.at_, .slice none 0 0] 108 (0, 0)) ∧ Kp w.heap.size [] w w' := by
  have hN' := fun w1 => hN (B tk.text) w1 (by rw [B_size]; exact htl) (by rw [B_toList]; exact hnum)
  clear hnum
  simp only [B_toList] at hN'
  go_enter Tryz.func235, Tryz.ntmps235
  go_wp2_with fail
  refine (plain_c _ _ _ _ _ _).mono ?_
  rintro e w1 ⟨rfl, s1, b1, hk1⟩
  have z1 := hk1.size
  simp at s1 z1 b1
  have T1 : Blk w1 w.heap.size #[.int .i64 tk.kind, .string (B tk.text), .int .i64 tk.at_] 35 := bka
  have R1 : Loc w1 (w.heap.size + 1) (.pointer none) 30 := loca
  have B1 := Blk.mk b1
  have S1 : w.heap.size + 1 + 1 + 1 < w1.heap.size := by omega
  clear b1 s1
  go_wp2_with fail
  generalize hbd : w.heap.size + 1 + 1 + 1 = bd at *
  have S2 : w.heap.size + 2 ≤ bd := by omega
  clear hbd
  have T2 := T1.alloc (.cells #[ptrV bd] 30)
  have R2 := R1.alloc (.cells #[ptrV bd] 30)
  have B2 := B1.alloc (.cells #[ptrV bd] 30)
  have L2 := Loc.new w1 (ptrV bd) 30
  have K2 : Kp w.heap.size [] w (w1.alloc (.cells #[ptrV bd] 30)) := kpa
  have Z2 : w1.heap.size < (w1.alloc (.cells #[ptrV bd] 30)).heap.size := by simp
  generalize w1.alloc (.cells #[ptrV bd] 30) = W2 at *
  generalize w1.heap.size = nv at *
  have l2c := L2.cell
  have t21 := T2.cell 1
  simp at t21
  refine wp_region_U (S := (fun W => W.cell? ⟨nv, 0, none⟩ = some (ptrV bd) ∧ W.cell? ⟨w.heap.size, 1, none⟩ = some (.string (B tk.text)))) (F := []) (by kernel_rfl) (by (first | (simp; done) | (simp [World.cell?_setCell_other, World.cell?_alloc_lt, *]; done))) (fun hHeld => ?_)
  have tl2 := T2.lt
  have bl2 := B2.lt
  have rl2 := R2.lt
  refine tkU 0 (v := ?_) rfl (by kernel_rfl) (fun _ _ _ h => h) (Or.inl ⟨by rfl, ?_⟩) (by assumption) ?_
  rotate_left
  · intro w hSw; (try dsimp only at hSw); go_simp; try with_reducible rfl
  try simp only [Act.put, pz]
  refine tkU 1 (v := ?_) rfl (by kernel_rfl) (fun _ _ _ h => h) (Or.inl ⟨by rfl, ?_⟩) (by assumption) ?_
  rotate_left
  · intro w hSw; (try dsimp only at hSw); go_simp; try with_reducible rfl
  try simp only [Act.put, pz]
  refine tkU 2 (v := ?_) rfl (by kernel_rfl) (fun _ _ _ h => h) (Or.inl ⟨by rfl, ?_⟩) (by assumption) ?_
  rotate_left
  · intro w hSw; (try dsimp only at hSw); go_simp; try with_reducible rfl
  try simp only [Act.put, pz]
  refine tkU 3 (v := ?_) rfl (by kernel_rfl) (fun _ _ _ h => h) (Or.inl ⟨by rfl, ?_⟩) (by assumption) ?_
  rotate_left
  · intro w hSw; (try dsimp only at hSw); go_simp; try with_reducible rfl
  try simp only [Act.put, pz]
  refine wpAnyU_one (i := 4) (by kernel_rfl) rfl rfl (fun K1 hK => ?_)
  go_simp
  refine (hN' _).mono ?_
  rintro e w3 ⟨rfl, hk3⟩
  have z3 := hk3.size
  simp at z3
  have T3 : Blk w3 w.heap.size #[.int .i64 tk.kind, .string (B tk.text), .int .i64 tk.at_] 35 := bka
  have L3 : Loc w3 nv (ptrV bd) 30 := loca
  have B3 := B2.drew.kp hk3 (by simp; omega) (by simp)
  have R3 : Loc w3 (w.heap.size + 1) (.pointer none) 30 := loca
  have K3 : Kp w.heap.size [] w w3 := kpa
  have t31 := T3.cell 1
  simp at t31
  have l3c := L3.cell
  have b33 := B3.cell 3
  have b3f := B3.frozen 3
  simp at b33
  try dsimp only
  try simp only [sz3]
  refine hK.out _ _ ?_ ?_
  · intro _; exact ⟨l3c, t31⟩
  clear hK K1
  try simp only [Act.put, pz]
  have S4 : w3.cell? ⟨nv, 0, none⟩ = some (ptrV bd) ∧ w3.cell? ⟨w.heap.size, 1, none⟩ = some (.string (B tk.text)) := ⟨l3c, t31⟩
  refine tkU 5 (v := ?_) rfl (by kernel_rfl) (fun _ _ _ h => h) (Or.inl ⟨by rfl, ?_⟩) (by assumption) ?_
  rotate_left
  · intro w hSw; (try dsimp only at hSw); go_simp; try with_reducible rfl
  try simp only [Act.put, pz]
  refine tkU 6 (v := ?_) rfl (by kernel_rfl) (fun _ _ _ h => h) (Or.inl ⟨by rfl, ?_⟩) (by assumption) ?_
  rotate_left
  · intro w hSw; (try dsimp only at hSw); go_simp; try with_reducible rfl
  try simp only [Act.put, pz]
  refine tkU 7 (v := ?_) rfl (by kernel_rfl) (fun _ _ _ h => h) (Or.inl ⟨by rfl, ?_⟩) (by assumption) ?_
  rotate_left
  · intro w hSw; (try dsimp only at hSw); go_simp; try with_reducible rfl
  try simp only [Act.put, pz]
  have n1 : ¬ bd = nv := by omega
  have n1' : ¬ nv = bd := by omega
  have n2 : ¬ w.heap.size + 1 = bd := by omega
  have n2' : ¬ bd = w.heap.size + 1 := by omega
  refine wpAnyU_one (i := 8) (by kernel_rfl) rfl rfl (fun K1 hK => ?_)
  go_simp
  try dsimp only
  try simp only [sz3]
  refine hK.out _ _ ?_ ?_
  · intro _; exact S4
  clear hK K1
  try simp only [Act.put, pz]
  refine wpAnyU_one (i := 9) (by kernel_rfl) rfl rfl (fun K1 hK => ?_)
  go_simp
  try dsimp only
  try simp only [sz3]
  refine hK.out _ _ ?_ ?_
  · intro _; exact S4
  clear hK K1
  try simp only [Act.put, pz]
  refine wpAnyU_one (i := 10) (by kernel_rfl) rfl rfl (fun K1 hK => ?_)
  go_simp
  try dsimp only
  try simp only [sz3]
  refine hK.out _ _ ?_ ?_
  · intro _; exact ⟨(L3.other 3 _ (by omega)).cell, Blk.cell (v := #[.int .i64 tk.kind, .string (B tk.text), .int .i64 tk.at_]) (t := 35) (T3.other 3 _ (by omega)) 1⟩
  clear hK K1
  try simp only [Act.put, pz]
  refine wpAnyU_done (by kernel_rfl) ?_ _
  have r3c := R3.cell
  have r3f := R3.frozen
  go_wp2
  refine bodyPost_ret (v := .agg #[ptrV bd]) (by simp [results, Tryz.results235, go_sem, *]) rfl ?_
  refine ⟨bd, by omega, by simp; omega, rfl, ?_, kpa⟩
  rw [hS_ne n2', heap_setCell_same B3.blk]
  rfl

end Go.Proofs.YtbplaekabeggkaaGreatDoor

namespace Go.Proofs.YtbplaekabeggkaaGreatDoor
open Go.RowKit

theorem cf240 (cb ct : Nat) (w : World) : (callFunc 240 #[.pointer (some ⟨cb, 0, none⟩), .pointer (some ⟨ct, 0, none⟩)]).run Tryz.prog w = .ok (.enter 240 #[.pointer (some ⟨cb, 0, none⟩), .pointer (some ⟨ct, 0, none⟩)]) w := by kernel_rfl

set_option maxRecDepth 100000 in
set_option maxHeartbeats 400000 in
theorem call_c {toks : List Tok} {en : Int} {br lim pos dep k : Nat} {w : World} (hE : ∀ j, j ≤ k → CExpr j) (hR : Rdr toks en br lim pos dep w) (hd : dep ≤ 40) (hp : pos < toks.length)
    (tk : Tok) (htl : tk.text.length ≤ 100000) (r : Res T)
    (hq : (if 40 < dep + 1 then some (.stop (tokAt toks en pos).at_ 3) else match pArgs k toks en (dep + 1) [] (pos + 1) with
      | some (.ok ts p) => some (.ok (.mk 21 tk.text [] 0 tk.at_ ts) p)
      | some (.stop a e) => some (.stop a e)
      | none => none) = some r) :
    Calls Tryz.prog 239 #[.pointer (some ⟨br, 0, none⟩), .agg #[.int .i64 tk.kind, .string (B tk.text), .int .i64 tk.at_]] w (PostN toks en br lim dep w r) := by
  have hlim := hR.limle
  have hbr := hR.lt
  have hD : ∀ (w1 : World), Rdr toks en br lim pos dep w1 → Loc w1 w.heap.size (ptrV br) 73 → Blk w1 (w.heap.size + 1) #[.int .i64 tk.kind, .string (B tk.text), .int .i64 tk.at_] 35 → Calls Tryz.prog 158 #[.pointer (some ⟨br, 0, none⟩), .func (.func 240) #[] #[.pointer (some ⟨w.heap.size, 0, none⟩), .pointer (some ⟨w.heap.size + 1, 0, none⟩)]] w1 (PostN toks en br lim dep w1 r) := by
    intro w1 h1 hl ht
    have hll := hl.lt
    have htt := ht.lt
    refine deeper_c h1 240 _ (cf240 _ _) hd r (fun h => ?_) (fun h w2 h2 k2 => ?_)
    · rw [if_pos h] at hq; cases hq; rfl
    · rw [if_neg (by omega)] at hq
      exact call1_c hE h2 h hp (hl.kp k2 (by omega) (by simp; omega)) hlim tk (ht.kp k2 (by omega) (by simp; omega)) (by omega) (by omega) htl r hq
  clear hq hE
  have : ¬ w.heap.size = br := sza
  have : ¬ br = w.heap.size := sza
  have : ¬ w.heap.size + 1 = w.heap.size := sza
  have : ¬ w.heap.size = w.heap.size + 1 := sza
  have : ¬ w.heap.size + 1 = br := sza
  have : ¬ br = w.heap.size + 1 := sza
  have : ¬ w.heap.size + 1 + 1 = w.heap.size := sza
  have : ¬ w.heap.size = w.heap.size + 1 + 1 := sza
  have : ¬ w.heap.size + 1 + 1 = w.heap.size + 1 := sza
  have : ¬ w.heap.size + 1 = w.heap.size + 1 + 1 := sza
  have : ¬ w.heap.size + 1 + 1 = br := sza
  have : ¬ br = w.heap.size + 1 + 1 := sza
  go_enter Tryz.func239, Tryz.ntmps239
  go_wp2_with fail
  refine (hD _ (rda) (loca) (bka)).mono ?_
  cases r with
  | stop a er =>
    rintro e w2 ⟨rfl, hk2⟩
    have z2 := hk2.size
    try simp at z2
    go_wp2
    exact ⟨rfl, rfl, kpa⟩
  | ok t p =>
    rintro e w2 ⟨b2, rfl, hT2, hr2, hk2⟩
    have z2 := hk2.size
    try simp at z2
    have lc2_0 := fun o => hk2.cell (w.heap.size) o sza sza
    have lf2_0 := fun o => hk2.frozen (w.heap.size) o sza sza
    have ll2_0 : w.heap.size < w2.heap.size := sza
    try simp at lc2_0
    try simp at lf2_0
    have lb2_0 := hk2.block (w.heap.size) sza sza
    have lc2_1 := fun o => hk2.cell (w.heap.size + 1) o sza sza
    have lf2_1 := fun o => hk2.frozen (w.heap.size + 1) o sza sza
    have ll2_1 : w.heap.size + 1 < w2.heap.size := sza
    try simp at lc2_1
    try simp at lf2_1
    have lb2_1 := hk2.block (w.heap.size + 1) sza sza
    have lc2_2 := fun o => hk2.cell (w.heap.size + 1 + 1) o sza sza
    have lf2_2 := fun o => hk2.frozen (w.heap.size + 1 + 1) o sza sza
    have ll2_2 : w.heap.size + 1 + 1 < w2.heap.size := sza
    try simp at lc2_2
    try simp at lf2_2
    have lb2_2 := hk2.block (w.heap.size + 1 + 1) sza sza
    go_wp2
    refine bodyPost_ret (v := .agg #[ptrV b2]) (by simp [results, Tryz.results239, go_sem, *]) rfl ?_
    refine ⟨b2, rfl, ?_, rda, kpa⟩
    refine IsT.frame sza sza (fun k hk hk' => ?_) _ _ hT2
    try simp at hk
    (repeat' (first | rfl | (rw [hS_ne (by first | omega | (simp; omega))]) | (rw [hA_old (by first | omega | (simp; omega))]) | (rw [hD]) | (rw [hDN])))

set_option maxRecDepth 100000 in
set_option maxHeartbeats 400000 in
theorem named_step {k : Nat} (hE : ∀ j, j ≤ k → CExpr j) : CNamed (k + 1) := by
  intro toks en br lim pos dep w r hR hd hk hr
  have hlim := hR.limle
  have hbr := hR.lt
  have htl := hR.text pos
  rw [pNamed] at hr
  try dsimp only at hr
  by_cases c1 : isTok (tokAt toks en (pos + 1)) kLpar = true
  · rw [if_pos c1] at hr
    have hp := isTok_lt c1
    have HC := fun w1 (h1 : Rdr toks en br lim (pos + 1) dep w1) => call_c hE h1 hd hp ⟨1, (tokAt toks en pos).text, (tokAt toks en pos).at_⟩ htl r hr
    clear hE
    have : ¬ w.heap.size = br := sza
    have : ¬ br = w.heap.size := sza
    go_enter Tryz.func236, Tryz.ntmps236
    go_wp2_with fail
    refine (word_yes (toks := toks) (en := en) (lim := lim) (dep := dep) (pos := pos) (rda) hk).mono ?_
    rintro e w1 ⟨rfl, hr1, hk1⟩
    have z1 := hk1.size
    try simp at z1
    have lc1_0 := fun o => hk1.cell (w.heap.size) o sza sza
    have lf1_0 := fun o => hk1.frozen (w.heap.size) o sza sza
    have ll1_0 : w.heap.size < w1.heap.size := sza
    try simp at lc1_0
    try simp at lf1_0
    have lb1_0 := hk1.block (w.heap.size) sza sza
    have : ¬ w1.heap.size = w.heap.size := sza
    have : ¬ w.heap.size = w1.heap.size := sza
    have : ¬ w1.heap.size = br := sza
    have : ¬ br = w1.heap.size := sza
    go_wp2_with fail
    refine ((is_c (pos := (pos+1)) (dep := dep) (toks := toks) (en := en) (lim := lim) (rda) ⟨#[40]⟩).mono ?_)
    rw [mk_toList, show isTok _ (#[40] : Array UInt8).toList = true from c1]
    rintro e w2 ⟨rfl, hk2⟩
    have z2 := hk2.size
    try simp at z2
    have lc2_0 := fun o => hk2.cell (w.heap.size) o sza sza
    have lf2_0 := fun o => hk2.frozen (w.heap.size) o sza sza
    have ll2_0 : w.heap.size < w2.heap.size := sza
    try simp at lc2_0
    try simp at lf2_0
    have lb2_0 := hk2.block (w.heap.size) sza sza
    have lc2_1 := fun o => hk2.cell (w1.heap.size) o sza sza
    have lf2_1 := fun o => hk2.frozen (w1.heap.size) o sza sza
    have ll2_1 : w1.heap.size < w2.heap.size := sza
    try simp at lc2_1
    try simp at lf2_1
    have lb2_1 := hk2.block (w1.heap.size) sza sza
    have hr2 : Rdr toks en br lim (pos+1) dep w2 := rda
    go_wp2_with fail
    refine (HC _ hr2).mono ?_
    cases r with
    | stop a er =>
      rintro e w3 ⟨rfl, hk3⟩
      have z3 := hk3.size
      try simp at z3
      go_wp2
      exact ⟨rfl, rfl, kpa⟩
    | ok t p =>
      rintro e w3 ⟨b3, rfl, hT3, hr3, hk3⟩
      have z3 := hk3.size
      try simp at z3
      have lc3_0 := fun o => hk3.cell (w.heap.size) o sza sza
      have lf3_0 := fun o => hk3.frozen (w.heap.size) o sza sza
      have ll3_0 : w.heap.size < w3.heap.size := sza
      try simp at lc3_0
      try simp at lf3_0
      have lb3_0 := hk3.block (w.heap.size) sza sza
      have lc3_1 := fun o => hk3.cell (w1.heap.size) o sza sza
      have lf3_1 := fun o => hk3.frozen (w1.heap.size) o sza sza
      have ll3_1 : w1.heap.size < w3.heap.size := sza
      try simp at lc3_1
      try simp at lf3_1
      have lb3_1 := hk3.block (w1.heap.size) sza sza
      go_wp2
      refine bodyPost_ret (v := .agg #[ptrV b3]) (by simp [results, Tryz.results236, go_sem, *]) rfl ?_
      refine ⟨b3, rfl, ?_, rda, kpa⟩
      refine IsT.frame sza sza (fun k hk hk' => ?_) _ _ hT3
      try simp at hk
      (repeat' (first | rfl | (rw [hS_ne (by first | omega | (simp; omega))]) | (rw [hA_old (by first | omega | (simp; omega))]) | (rw [hD]) | (rw [hDN])))
  · rw [if_neg c1] at hr
    rw [Bool.not_eq_true] at c1
    cases hr
    have : ¬ w.heap.size = br := sza
    have : ¬ br = w.heap.size := sza
    go_enter Tryz.func236, Tryz.ntmps236
    go_wp2_with fail
    refine (word_yes (toks := toks) (en := en) (lim := lim) (dep := dep) (pos := pos) (rda) hk).mono ?_
    rintro e w1 ⟨rfl, hr1, hk1⟩
    have z1 := hk1.size
    try simp at z1
    have lc1_0 := fun o => hk1.cell (w.heap.size) o sza sza
    have lf1_0 := fun o => hk1.frozen (w.heap.size) o sza sza
    have ll1_0 : w.heap.size < w1.heap.size := sza
    try simp at lc1_0
    try simp at lf1_0
    have lb1_0 := hk1.block (w.heap.size) sza sza
    have : ¬ w1.heap.size = w.heap.size := sza
    have : ¬ w.heap.size = w1.heap.size := sza
    have : ¬ w1.heap.size = br := sza
    have : ¬ br = w1.heap.size := sza
    go_wp2_with fail
    refine ((is_c (pos := (pos+1)) (dep := dep) (toks := toks) (en := en) (lim := lim) (rda) ⟨#[40]⟩).mono ?_)
    rw [mk_toList, show isTok _ (#[40] : Array UInt8).toList = false from c1]
    rintro e w2 ⟨rfl, hk2⟩
    have z2 := hk2.size
    try simp at z2
    have lc2_0 := fun o => hk2.cell (w.heap.size) o sza sza
    have lf2_0 := fun o => hk2.frozen (w.heap.size) o sza sza
    have ll2_0 : w.heap.size < w2.heap.size := sza
    try simp at lc2_0
    try simp at lf2_0
    have lb2_0 := hk2.block (w.heap.size) sza sza
    have lc2_1 := fun o => hk2.cell (w1.heap.size) o sza sza
    have lf2_1 := fun o => hk2.frozen (w1.heap.size) o sza sza
    have ll2_1 : w1.heap.size < w2.heap.size := sza
    try simp at lc2_1
    try simp at lf2_1
    have lb2_1 := hk2.block (w1.heap.size) sza sza
    have hr2 : Rdr toks en br lim (pos+1) dep w2 := rda
    go_wp2_with fail
    refine (node_c _ _ _ _ _ _ _ _).mono ?_
    rintro e w3 ⟨rfl, s3, b3, hk3⟩
    have S3 : w2.heap.size + 3 ≤ w3.heap.size := by omega
    have B3 := Blk.mk b3
    clear s3 b3
    have z3 := hk3.size
    try simp at z3
    have lc3_0 := fun o => hk3.cell (w.heap.size) o sza sza
    have lf3_0 := fun o => hk3.frozen (w.heap.size) o sza sza
    have ll3_0 : w.heap.size < w3.heap.size := sza
    try simp at lc3_0
    try simp at lf3_0
    have lb3_0 := hk3.block (w.heap.size) sza sza
    have lc3_1 := fun o => hk3.cell (w1.heap.size) o sza sza
    have lf3_1 := fun o => hk3.frozen (w1.heap.size) o sza sza
    have ll3_1 : w1.heap.size < w3.heap.size := sza
    try simp at lc3_1
    try simp at lf3_1
    have lb3_1 := hk3.block (w1.heap.size) sza sza
    go_wp2
    refine bodyPost_ret (v := .agg #[ptrV (w2.heap.size + 2)]) (by simp [results, Tryz.results236, go_sem, *]) rfl ?_
    refine ⟨w2.heap.size + 2, rfl, ?_, rda, kpa⟩
    refine IsX.isT _ _ (IsX.leaf (typ := []) (ex := []) (by omega) (by simp; omega) (by simp) (Blk.blk (t := 108) (bka)))

end Go.Proofs.YtbplaekabeggkaaGreatDoor

namespace Go.Proofs.YtbplaekabeggkaaGreatDoor
open Go.RowKit

set_option maxRecDepth 100000 in
set_option maxHeartbeats 3000000 in
theorem key_c {toks : List Tok} {en : Int} {br lim pos dep : Nat} {w : World} (hR : Rdr toks en br lim pos dep w) (hp : pos < toks.length) (r : Res T) (hr : pKey toks en pos = r) :
    Calls Tryz.prog 237 #[.pointer (some ⟨br, 0, none⟩)] w (PostN toks en br lim dep w r) := by
  have hlim := hR.limle
  have hbr := hR.lt
  unfold pKey at hr
  dsimp only at hr
  have : ¬ w.heap.size = br := sza
  have : ¬ br = w.heap.size := sza
  go_enter Tryz.func237, Tryz.ntmps237
  go_wp2_with fail
  refine (take_c (pos := pos) (dep := dep) (toks := toks) (en := en) (lim := lim) (rda) hp).mono ?_
  rintro e w1 ⟨rfl, hr1, hk1⟩
  have z1 := hk1.size
  try simp at z1
  have lc1_0 := fun o => hk1.cell (w.heap.size) o sza sza
  have lf1_0 := fun o => hk1.frozen (w.heap.size) o sza sza
  have ll1_0 : w.heap.size < w1.heap.size := sza
  try simp at lc1_0
  try simp at lf1_0
  have lb1_0 := hk1.block (w.heap.size) sza sza
  generalize tokAt toks en pos = tk at *
  obtain ⟨kd, tx, at_⟩ := tk
  dsimp only at hr
  go_wp2_with fail
  have : ¬ w1.heap.size = w.heap.size := sza
  have : ¬ w.heap.size = w1.heap.size := sza
  have : ¬ w1.heap.size = br := sza
  have : ¬ br = w1.heap.size := sza
  refine (plain_c _ _ _ _ _ _).mono ?_
  rintro e w2 ⟨rfl, s2, b2, hk2⟩
  have z2 := hk2.size
  simp at s2 z2 b2
  have B2 := Blk.mk b2
  clear b2
  have T2 : Blk w2 w1.heap.size #[.int .i64 kd, .string (B tx), .int .i64 at_] 35 := bka
  have R2 : Loc w2 w.heap.size (.pointer none) 30 := loca
  have K2 : Kp w.heap.size [br] w w2 := kpa
  have hr2 : Rdr toks en br lim (pos + 1) dep w2 := rda
  have S2 : w1.heap.size + 1 + 1 < w2.heap.size := by omega
  clear s2
  have hw1 : w.heap.size < w1.heap.size := by omega
  have t21 := T2.cell 1
  have b20 := B2.cell 0
  have b23 := B2.cell 3
  have f20 := B2.frozen 0
  have f23 := B2.frozen 3
  have r20 := R2.cell
  have r2f := R2.frozen
  simp at t21 b20 b23
  have e1 : ¬ w2.heap.size = w1.heap.size + 1 + 1 := by omega
  have e2 : ¬ w1.heap.size + 1 + 1 = w2.heap.size := by omega
  have e3 : ¬ w1.heap.size + 1 + 1 = w1.heap.size := by omega
  have e4 : ¬ w1.heap.size = w1.heap.size + 1 + 1 := by omega
  have e5 : ¬ w1.heap.size + 1 + 1 = w.heap.size := by omega
  have e6 : ¬ w.heap.size = w1.heap.size + 1 + 1 := by omega
  have e7 : ¬ w2.heap.size = w1.heap.size := by omega
  have e8 : ¬ w1.heap.size = w2.heap.size := by omega
  have e9 : ¬ w2.heap.size = w.heap.size := by omega
  have e10 : ¬ w.heap.size = w2.heap.size := by omega
  have l1 : w1.heap.size < w2.heap.size := by omega
  have l2 : w.heap.size < w2.heap.size := by omega
  have hlim2 : lim ≤ w1.heap.size := by omega
  clear hk1 hk2 z1 z2 lc1_0 lf1_0 lb1_0 hr1 hR
  by_cases c1 : tx = kTrue
  · rw [if_pos c1] at hr
    change tx = [116, 114, 117, 101] at c1
    subst c1
    go_wp2
    refine bodyPost_ret (v := .agg #[ptrV (w1.heap.size + 1 + 1)]) (by simp [results, Tryz.results237, go_sem, *]) rfl ?_
    subst hr
    refine ⟨_, rfl, ?_, rda, kpa⟩
    refine IsX.isT _ _ (IsX.leaf (name := []) (typ := []) (ex := []) (by omega) (by simp; omega) (by simp) ?_)
    rw [hA_old sza, hS_ne e5, hS_eq, hS_eq, B2.blk]
    rfl
  rw [if_neg c1] at hr
  change ¬ tx = [116, 114, 117, 101] at c1
  replace c1 : (tx == [116, 114, 117, 101]) = false := by simpa using c1
  by_cases c2 : tx = kFalse
  · rw [if_pos c2] at hr
    change tx = [102, 97, 108, 115, 101] at c2
    subst c2
    go_wp2
    refine bodyPost_ret (v := .agg #[ptrV (w1.heap.size + 1 + 1)]) (by simp [results, Tryz.results237, go_sem, *]) rfl ?_
    subst hr
    refine ⟨_, rfl, ?_, rda, kpa⟩
    refine IsX.isT _ _ (IsX.leaf (name := []) (typ := []) (ex := []) (by omega) (by simp; omega) (by simp) ?_)
    rw [hA_old sza, hS_ne e5, hS_eq, B2.blk]
    rfl
  rw [if_neg c2] at hr
  change ¬ tx = [102, 97, 108, 115, 101] at c2
  replace c2 : (tx == [102, 97, 108, 115, 101]) = false := by simpa using c2
  by_cases c3 : tx = kNew
  · rw [if_pos c3] at hr
    change tx = [110, 101, 119] at c3
    subst c3
    by_cases d1 : isTok (tokAt toks en (pos + 1)) kLpar = true
    rotate_left
    · rw [if_neg d1] at hr
      rw [Bool.not_eq_true] at d1
      subst hr
      go_wp2_with fail
      refine (expect_no (toks := toks) (en := en) (lim := lim) (dep := dep) (pos := pos + 1) (rda) ⟨#[40]⟩ (by rw [mk_toList]; exact d1)).mono ?_
      rintro e w3 ⟨rfl, hk3⟩
      have z3 := hk3.size
      try simp at z3
      go_wp2
      exact ⟨rfl, rfl, kpa⟩
    rw [if_pos d1] at hr
    by_cases d2 : (tokAt toks en (pos + 2)).kind = 1
    rotate_left
    · rw [if_neg d2] at hr
      subst hr
      have : ¬ w.heap.size = br := sza
      have : ¬ br = w.heap.size := sza
      have : ¬ w1.heap.size = w.heap.size := sza
      have : ¬ w.heap.size = w1.heap.size := sza
      have : ¬ w1.heap.size = br := sza
      have : ¬ br = w1.heap.size := sza
      have : ¬ w2.heap.size = w.heap.size := sza
      have : ¬ w.heap.size = w2.heap.size := sza
      have : ¬ w2.heap.size = w1.heap.size := sza
      have : ¬ w1.heap.size = w2.heap.size := sza
      have : ¬ w2.heap.size = br := sza
      have : ¬ br = w2.heap.size := sza
      have : ¬ w1.heap.size + 1 + 1 = w.heap.size := sza
      have : ¬ w.heap.size = w1.heap.size + 1 + 1 := sza
      have : ¬ w1.heap.size + 1 + 1 = w1.heap.size := sza
      have : ¬ w1.heap.size = w1.heap.size + 1 + 1 := sza
      have : ¬ w1.heap.size + 1 + 1 = w2.heap.size := sza
      have : ¬ w2.heap.size = w1.heap.size + 1 + 1 := sza
      have : ¬ w1.heap.size + 1 + 1 = br := sza
      have : ¬ br = w1.heap.size + 1 + 1 := sza
      go_wp2_with fail
      refine (expect_yes (toks := toks) (en := en) (lim := lim) (dep := dep) (pos := pos + 1) (rda) ⟨#[40]⟩ (by rw [mk_toList]; exact d1)).mono ?_
      rintro e w3 ⟨rfl, hr3, hk3⟩
      have z3 := hk3.size
      try simp at z3
      have lc3_0 := fun o => hk3.cell (w.heap.size) o sza sza
      have lf3_0 := fun o => hk3.frozen (w.heap.size) o sza sza
      have ll3_0 : w.heap.size < w3.heap.size := sza
      try simp at lc3_0
      try simp at lf3_0
      have lb3_0 := hk3.block (w.heap.size) sza sza
      have lc3_1 := fun o => hk3.cell (w1.heap.size) o sza sza
      have lf3_1 := fun o => hk3.frozen (w1.heap.size) o sza sza
      have ll3_1 : w1.heap.size < w3.heap.size := sza
      try simp at lc3_1
      try simp at lf3_1
      have lb3_1 := hk3.block (w1.heap.size) sza sza
      have lc3_2 := fun o => hk3.cell (w2.heap.size) o sza sza
      have lf3_2 := fun o => hk3.frozen (w2.heap.size) o sza sza
      have ll3_2 : w2.heap.size < w3.heap.size := sza
      try simp at lc3_2
      try simp at lf3_2
      have lb3_2 := hk3.block (w2.heap.size) sza sza
      have lc3_3 := fun o => hk3.cell (w1.heap.size + 1 + 1) o sza sza
      have lf3_3 := fun o => hk3.frozen (w1.heap.size + 1 + 1) o sza sza
      have ll3_3 : w1.heap.size + 1 + 1 < w3.heap.size := sza
      try simp at lc3_3
      try simp at lf3_3
      have lb3_3 := hk3.block (w1.heap.size + 1 + 1) sza sza
      go_wp2_with fail
      refine (word_no (toks := toks) (en := en) (lim := lim) (dep := dep) (pos := pos + 1 + 1) (rda) d2).mono ?_
      rintro e w4 ⟨rfl, hk4⟩
      have z4 := hk4.size
      try simp at z4
      go_wp2
      exact ⟨rfl, rfl, kpa⟩
    rw [if_pos d2] at hr
    have D2 := Lib.hid d2
    clear d2
    have hds := hr2.text (pos + 2)
    by_cases d3 : isTok (tokAt toks en (pos + 3)) kRpar = true
    · rw [if_pos d3] at hr
      subst hr
      have : ¬ w.heap.size = br := sza
      have : ¬ br = w.heap.size := sza
      have : ¬ w1.heap.size = w.heap.size := sza
      have : ¬ w.heap.size = w1.heap.size := sza
      have : ¬ w1.heap.size = br := sza
      have : ¬ br = w1.heap.size := sza
      have : ¬ w2.heap.size = w.heap.size := sza
      have : ¬ w.heap.size = w2.heap.size := sza
      have : ¬ w2.heap.size = w1.heap.size := sza
      have : ¬ w1.heap.size = w2.heap.size := sza
      have : ¬ w2.heap.size = br := sza
      have : ¬ br = w2.heap.size := sza
      have : ¬ w1.heap.size + 1 + 1 = w.heap.size := sza
      have : ¬ w.heap.size = w1.heap.size + 1 + 1 := sza
      have : ¬ w1.heap.size + 1 + 1 = w1.heap.size := sza
      have : ¬ w1.heap.size = w1.heap.size + 1 + 1 := sza
      have : ¬ w1.heap.size + 1 + 1 = w2.heap.size := sza
      have : ¬ w2.heap.size = w1.heap.size + 1 + 1 := sza
      have : ¬ w1.heap.size + 1 + 1 = br := sza
      have : ¬ br = w1.heap.size + 1 + 1 := sza
      go_wp2_with fail
      refine (expect_yes (toks := toks) (en := en) (lim := lim) (dep := dep) (pos := pos + 1) (rda) ⟨#[40]⟩ (by rw [mk_toList]; exact d1)).mono ?_
      rintro e w3 ⟨rfl, hr3, hk3⟩
      have z3 := hk3.size
      try simp at z3
      have lc3_0 := fun o => hk3.cell (w.heap.size) o sza sza
      have lf3_0 := fun o => hk3.frozen (w.heap.size) o sza sza
      have ll3_0 : w.heap.size < w3.heap.size := sza
      try simp at lc3_0
      try simp at lf3_0
      have lb3_0 := hk3.block (w.heap.size) sza sza
      have lc3_1 := fun o => hk3.cell (w1.heap.size) o sza sza
      have lf3_1 := fun o => hk3.frozen (w1.heap.size) o sza sza
      have ll3_1 : w1.heap.size < w3.heap.size := sza
      try simp at lc3_1
      try simp at lf3_1
      have lb3_1 := hk3.block (w1.heap.size) sza sza
      have lc3_2 := fun o => hk3.cell (w2.heap.size) o sza sza
      have lf3_2 := fun o => hk3.frozen (w2.heap.size) o sza sza
      have ll3_2 : w2.heap.size < w3.heap.size := sza
      try simp at lc3_2
      try simp at lf3_2
      have lb3_2 := hk3.block (w2.heap.size) sza sza
      have lc3_3 := fun o => hk3.cell (w1.heap.size + 1 + 1) o sza sza
      have lf3_3 := fun o => hk3.frozen (w1.heap.size + 1 + 1) o sza sza
      have ll3_3 : w1.heap.size + 1 + 1 < w3.heap.size := sza
      try simp at lc3_3
      try simp at lf3_3
      have lb3_3 := hk3.block (w1.heap.size + 1 + 1) sza sza
      go_wp2_with fail
      refine (word_yes (toks := toks) (en := en) (lim := lim) (dep := dep) (pos := pos + 1 + 1) (rda) D2.out).mono ?_
      rintro e w4 ⟨rfl, hr4, hk4⟩
      have z4 := hk4.size
      try simp at z4
      have lc4_0 := fun o => hk4.cell (w.heap.size) o sza sza
      have lf4_0 := fun o => hk4.frozen (w.heap.size) o sza sza
      have ll4_0 : w.heap.size < w4.heap.size := sza
      try simp at lc4_0
      try simp at lf4_0
      have lb4_0 := hk4.block (w.heap.size) sza sza
      have lc4_1 := fun o => hk4.cell (w1.heap.size) o sza sza
      have lf4_1 := fun o => hk4.frozen (w1.heap.size) o sza sza
      have ll4_1 : w1.heap.size < w4.heap.size := sza
      try simp at lc4_1
      try simp at lf4_1
      have lb4_1 := hk4.block (w1.heap.size) sza sza
      have lc4_2 := fun o => hk4.cell (w2.heap.size) o sza sza
      have lf4_2 := fun o => hk4.frozen (w2.heap.size) o sza sza
      have ll4_2 : w2.heap.size < w4.heap.size := sza
      try simp at lc4_2
      try simp at lf4_2
      have lb4_2 := hk4.block (w2.heap.size) sza sza
      have lc4_3 := fun o => hk4.cell (w1.heap.size + 1 + 1) o sza sza
      have lf4_3 := fun o => hk4.frozen (w1.heap.size + 1 + 1) o sza sza
      have ll4_3 : w1.heap.size + 1 + 1 < w4.heap.size := sza
      try simp at lc4_3
      try simp at lf4_3
      have lb4_3 := hk4.block (w1.heap.size + 1 + 1) sza sza
      go_wp2_with fail
      refine (node_c _ _ _ _ _ _ _ _).mono ?_
      rintro e w5 ⟨rfl, s5, b5, hk5⟩
      have S5 : w4.heap.size + 2 < w5.heap.size := by omega
      have S5' : w4.heap.size ≤ w5.heap.size := by omega
      have B5 := Blk.mk b5
      clear s5 b5
      have z5 := hk5.size
      try simp at z5
      have lc5_0 := fun o => hk5.cell (w.heap.size) o sza sza
      have lf5_0 := fun o => hk5.frozen (w.heap.size) o sza sza
      have ll5_0 : w.heap.size < w5.heap.size := sza
      try simp at lc5_0
      try simp at lf5_0
      have lb5_0 := hk5.block (w.heap.size) sza sza
      have lc5_1 := fun o => hk5.cell (w1.heap.size) o sza sza
      have lf5_1 := fun o => hk5.frozen (w1.heap.size) o sza sza
      have ll5_1 : w1.heap.size < w5.heap.size := sza
      try simp at lc5_1
      try simp at lf5_1
      have lb5_1 := hk5.block (w1.heap.size) sza sza
      have lc5_2 := fun o => hk5.cell (w2.heap.size) o sza sza
      have lf5_2 := fun o => hk5.frozen (w2.heap.size) o sza sza
      have ll5_2 : w2.heap.size < w5.heap.size := sza
      try simp at lc5_2
      try simp at lf5_2
      have lb5_2 := hk5.block (w2.heap.size) sza sza
      have lc5_3 := fun o => hk5.cell (w1.heap.size + 1 + 1) o sza sza
      have lf5_3 := fun o => hk5.frozen (w1.heap.size + 1 + 1) o sza sza
      have ll5_3 : w1.heap.size + 1 + 1 < w5.heap.size := sza
      try simp at lc5_3
      try simp at lf5_3
      have lb5_3 := hk5.block (w1.heap.size + 1 + 1) sza sza
      have hr5 : Rdr toks en br lim (pos + 3) dep w5 := rda
      go_wp2_with fail
      refine (expect_yes (toks := toks) (en := en) (lim := lim) (dep := dep) (pos := pos + 3) (rda) ⟨#[41]⟩ (by rw [mk_toList]; exact d3)).mono ?_
      rintro e w6 ⟨rfl, hr6, hk6⟩
      have z6 := hk6.size
      try simp at z6
      have lc6_0 := fun o => hk6.cell (w.heap.size) o sza sza
      have lf6_0 := fun o => hk6.frozen (w.heap.size) o sza sza
      have ll6_0 : w.heap.size < w6.heap.size := sza
      try simp at lc6_0
      try simp at lf6_0
      have lb6_0 := hk6.block (w.heap.size) sza sza
      have lc6_1 := fun o => hk6.cell (w1.heap.size) o sza sza
      have lf6_1 := fun o => hk6.frozen (w1.heap.size) o sza sza
      have ll6_1 : w1.heap.size < w6.heap.size := sza
      try simp at lc6_1
      try simp at lf6_1
      have lb6_1 := hk6.block (w1.heap.size) sza sza
      have lc6_2 := fun o => hk6.cell (w2.heap.size) o sza sza
      have lf6_2 := fun o => hk6.frozen (w2.heap.size) o sza sza
      have ll6_2 : w2.heap.size < w6.heap.size := sza
      try simp at lc6_2
      try simp at lf6_2
      have lb6_2 := hk6.block (w2.heap.size) sza sza
      have lc6_3 := fun o => hk6.cell (w1.heap.size + 1 + 1) o sza sza
      have lf6_3 := fun o => hk6.frozen (w1.heap.size + 1 + 1) o sza sza
      have ll6_3 : w1.heap.size + 1 + 1 < w6.heap.size := sza
      try simp at lc6_3
      try simp at lf6_3
      have lb6_3 := hk6.block (w1.heap.size + 1 + 1) sza sza
      go_wp2
      refine bodyPost_ret (v := .agg #[ptrV (w4.heap.size + 2)]) (by simp [results, Tryz.results237, go_sem, *]) rfl ?_
      refine ⟨_, rfl, ?_, rda, kpa⟩
      refine IsX.isT _ _ (IsX.leaf (typ := []) (ex := []) (by omega) (by simp; omega) (by simp) (Blk.blk (t := 108) (bka)))
    · rw [if_neg d3] at hr
      rw [Bool.not_eq_true] at d3
      subst hr
      have : ¬ w.heap.size = br := sza
      have : ¬ br = w.heap.size := sza
      have : ¬ w1.heap.size = w.heap.size := sza
      have : ¬ w.heap.size = w1.heap.size := sza
      have : ¬ w1.heap.size = br := sza
      have : ¬ br = w1.heap.size := sza
      have : ¬ w2.heap.size = w.heap.size := sza
      have : ¬ w.heap.size = w2.heap.size := sza
      have : ¬ w2.heap.size = w1.heap.size := sza
      have : ¬ w1.heap.size = w2.heap.size := sza
      have : ¬ w2.heap.size = br := sza
      have : ¬ br = w2.heap.size := sza
      have : ¬ w1.heap.size + 1 + 1 = w.heap.size := sza
      have : ¬ w.heap.size = w1.heap.size + 1 + 1 := sza
      have : ¬ w1.heap.size + 1 + 1 = w1.heap.size := sza
      have : ¬ w1.heap.size = w1.heap.size + 1 + 1 := sza
      have : ¬ w1.heap.size + 1 + 1 = w2.heap.size := sza
      have : ¬ w2.heap.size = w1.heap.size + 1 + 1 := sza
      have : ¬ w1.heap.size + 1 + 1 = br := sza
      have : ¬ br = w1.heap.size + 1 + 1 := sza
      go_wp2_with fail
      refine (expect_yes (toks := toks) (en := en) (lim := lim) (dep := dep) (pos := pos + 1) (rda) ⟨#[40]⟩ (by rw [mk_toList]; exact d1)).mono ?_
      rintro e w3 ⟨rfl, hr3, hk3⟩
      have z3 := hk3.size
      try simp at z3
      have lc3_0 := fun o => hk3.cell (w.heap.size) o sza sza
      have lf3_0 := fun o => hk3.frozen (w.heap.size) o sza sza
      have ll3_0 : w.heap.size < w3.heap.size := sza
      try simp at lc3_0
      try simp at lf3_0
      have lb3_0 := hk3.block (w.heap.size) sza sza
      have lc3_1 := fun o => hk3.cell (w1.heap.size) o sza sza
      have lf3_1 := fun o => hk3.frozen (w1.heap.size) o sza sza
      have ll3_1 : w1.heap.size < w3.heap.size := sza
      try simp at lc3_1
      try simp at lf3_1
      have lb3_1 := hk3.block (w1.heap.size) sza sza
      have lc3_2 := fun o => hk3.cell (w2.heap.size) o sza sza
      have lf3_2 := fun o => hk3.frozen (w2.heap.size) o sza sza
      have ll3_2 : w2.heap.size < w3.heap.size := sza
      try simp at lc3_2
      try simp at lf3_2
      have lb3_2 := hk3.block (w2.heap.size) sza sza
      have lc3_3 := fun o => hk3.cell (w1.heap.size + 1 + 1) o sza sza
      have lf3_3 := fun o => hk3.frozen (w1.heap.size + 1 + 1) o sza sza
      have ll3_3 : w1.heap.size + 1 + 1 < w3.heap.size := sza
      try simp at lc3_3
      try simp at lf3_3
      have lb3_3 := hk3.block (w1.heap.size + 1 + 1) sza sza
      go_wp2_with fail
      refine (word_yes (toks := toks) (en := en) (lim := lim) (dep := dep) (pos := pos + 1 + 1) (rda) D2.out).mono ?_
      rintro e w4 ⟨rfl, hr4, hk4⟩
      have z4 := hk4.size
      try simp at z4
      have lc4_0 := fun o => hk4.cell (w.heap.size) o sza sza
      have lf4_0 := fun o => hk4.frozen (w.heap.size) o sza sza
      have ll4_0 : w.heap.size < w4.heap.size := sza
      try simp at lc4_0
      try simp at lf4_0
      have lb4_0 := hk4.block (w.heap.size) sza sza
      have lc4_1 := fun o => hk4.cell (w1.heap.size) o sza sza
      have lf4_1 := fun o => hk4.frozen (w1.heap.size) o sza sza
      have ll4_1 : w1.heap.size < w4.heap.size := sza
      try simp at lc4_1
      try simp at lf4_1
      have lb4_1 := hk4.block (w1.heap.size) sza sza
      have lc4_2 := fun o => hk4.cell (w2.heap.size) o sza sza
      have lf4_2 := fun o => hk4.frozen (w2.heap.size) o sza sza
      have ll4_2 : w2.heap.size < w4.heap.size := sza
      try simp at lc4_2
      try simp at lf4_2
      have lb4_2 := hk4.block (w2.heap.size) sza sza
      have lc4_3 := fun o => hk4.cell (w1.heap.size + 1 + 1) o sza sza
      have lf4_3 := fun o => hk4.frozen (w1.heap.size + 1 + 1) o sza sza
      have ll4_3 : w1.heap.size + 1 + 1 < w4.heap.size := sza
      try simp at lc4_3
      try simp at lf4_3
      have lb4_3 := hk4.block (w1.heap.size + 1 + 1) sza sza
      go_wp2_with fail
      refine (node_c _ _ _ _ _ _ _ _).mono ?_
      rintro e w5 ⟨rfl, s5, b5, hk5⟩
      have S5 : w4.heap.size + 2 < w5.heap.size := by omega
      have B5 := Blk.mk b5
      clear s5 b5
      have z5 := hk5.size
      try simp at z5
      have lc5_0 := fun o => hk5.cell (w.heap.size) o sza sza
      have lf5_0 := fun o => hk5.frozen (w.heap.size) o sza sza
      have ll5_0 : w.heap.size < w5.heap.size := sza
      try simp at lc5_0
      try simp at lf5_0
      have lb5_0 := hk5.block (w.heap.size) sza sza
      have lc5_1 := fun o => hk5.cell (w1.heap.size) o sza sza
      have lf5_1 := fun o => hk5.frozen (w1.heap.size) o sza sza
      have ll5_1 : w1.heap.size < w5.heap.size := sza
      try simp at lc5_1
      try simp at lf5_1
      have lb5_1 := hk5.block (w1.heap.size) sza sza
      have lc5_2 := fun o => hk5.cell (w2.heap.size) o sza sza
      have lf5_2 := fun o => hk5.frozen (w2.heap.size) o sza sza
      have ll5_2 : w2.heap.size < w5.heap.size := sza
      try simp at lc5_2
      try simp at lf5_2
      have lb5_2 := hk5.block (w2.heap.size) sza sza
      have lc5_3 := fun o => hk5.cell (w1.heap.size + 1 + 1) o sza sza
      have lf5_3 := fun o => hk5.frozen (w1.heap.size + 1 + 1) o sza sza
      have ll5_3 : w1.heap.size + 1 + 1 < w5.heap.size := sza
      try simp at lc5_3
      try simp at lf5_3
      have lb5_3 := hk5.block (w1.heap.size + 1 + 1) sza sza
      have hr5 : Rdr toks en br lim (pos + 3) dep w5 := rda
      go_wp2_with fail
      refine (expect_no (toks := toks) (en := en) (lim := lim) (dep := dep) (pos := pos + 3) (rda) ⟨#[41]⟩ (by rw [mk_toList]; exact d3)).mono ?_
      rintro e w6 ⟨rfl, hk6⟩
      have z6 := hk6.size
      try simp at z6
      go_wp2
      exact ⟨rfl, rfl, kpa⟩
  rw [if_neg c3] at hr
  change ¬ tx = [110, 101, 119] at c3
  replace c3 : (tx == [110, 101, 119]) = false := by simpa using c3
  by_cases c4 : tx = kRead
  · rw [if_pos c4] at hr
    change tx = [114, 101, 97, 100] at c4
    subst c4
    by_cases d1 : isTok (tokAt toks en (pos + 1)) kLpar = true
    rotate_left
    · rw [if_neg d1] at hr
      rw [Bool.not_eq_true] at d1
      subst hr
      go_wp2_with fail
      refine (expect_no (toks := toks) (en := en) (lim := lim) (dep := dep) (pos := pos + 1) (rda) ⟨#[40]⟩ (by rw [mk_toList]; exact d1)).mono ?_
      rintro e w3 ⟨rfl, hk3⟩
      have z3 := hk3.size
      try simp at z3
      go_wp2
      exact ⟨rfl, rfl, kpa⟩
    rw [if_pos d1] at hr
    by_cases d2 : isTok (tokAt toks en (pos + 2)) kRpar = true
    rotate_left
    · rw [if_neg d2] at hr
      rw [Bool.not_eq_true] at d2
      subst hr
      have : ¬ w.heap.size = br := sza
      have : ¬ br = w.heap.size := sza
      have : ¬ w1.heap.size = w.heap.size := sza
      have : ¬ w.heap.size = w1.heap.size := sza
      have : ¬ w1.heap.size = br := sza
      have : ¬ br = w1.heap.size := sza
      have : ¬ w2.heap.size = w.heap.size := sza
      have : ¬ w.heap.size = w2.heap.size := sza
      have : ¬ w2.heap.size = w1.heap.size := sza
      have : ¬ w1.heap.size = w2.heap.size := sza
      have : ¬ w2.heap.size = br := sza
      have : ¬ br = w2.heap.size := sza
      have : ¬ w1.heap.size + 1 + 1 = w.heap.size := sza
      have : ¬ w.heap.size = w1.heap.size + 1 + 1 := sza
      have : ¬ w1.heap.size + 1 + 1 = w1.heap.size := sza
      have : ¬ w1.heap.size = w1.heap.size + 1 + 1 := sza
      have : ¬ w1.heap.size + 1 + 1 = w2.heap.size := sza
      have : ¬ w2.heap.size = w1.heap.size + 1 + 1 := sza
      have : ¬ w1.heap.size + 1 + 1 = br := sza
      have : ¬ br = w1.heap.size + 1 + 1 := sza
      go_wp2_with fail
      refine (expect_yes (toks := toks) (en := en) (lim := lim) (dep := dep) (pos := pos + 1) (rda) ⟨#[40]⟩ (by rw [mk_toList]; exact d1)).mono ?_
      rintro e w3 ⟨rfl, hr3, hk3⟩
      have z3 := hk3.size
      try simp at z3
      have lc3_0 := fun o => hk3.cell (w.heap.size) o sza sza
      have lf3_0 := fun o => hk3.frozen (w.heap.size) o sza sza
      have ll3_0 : w.heap.size < w3.heap.size := sza
      try simp at lc3_0
      try simp at lf3_0
      have lb3_0 := hk3.block (w.heap.size) sza sza
      have lc3_1 := fun o => hk3.cell (w1.heap.size) o sza sza
      have lf3_1 := fun o => hk3.frozen (w1.heap.size) o sza sza
      have ll3_1 : w1.heap.size < w3.heap.size := sza
      try simp at lc3_1
      try simp at lf3_1
      have lb3_1 := hk3.block (w1.heap.size) sza sza
      have lc3_2 := fun o => hk3.cell (w2.heap.size) o sza sza
      have lf3_2 := fun o => hk3.frozen (w2.heap.size) o sza sza
      have ll3_2 : w2.heap.size < w3.heap.size := sza
      try simp at lc3_2
      try simp at lf3_2
      have lb3_2 := hk3.block (w2.heap.size) sza sza
      have lc3_3 := fun o => hk3.cell (w1.heap.size + 1 + 1) o sza sza
      have lf3_3 := fun o => hk3.frozen (w1.heap.size + 1 + 1) o sza sza
      have ll3_3 : w1.heap.size + 1 + 1 < w3.heap.size := sza
      try simp at lc3_3
      try simp at lf3_3
      have lb3_3 := hk3.block (w1.heap.size + 1 + 1) sza sza
      go_wp2_with fail
      refine (expect_no (toks := toks) (en := en) (lim := lim) (dep := dep) (pos := pos + 1 + 1) (rda) ⟨#[41]⟩ (by rw [mk_toList]; exact d2)).mono ?_
      rintro e w4 ⟨rfl, hk4⟩
      have z4 := hk4.size
      try simp at z4
      go_wp2
      exact ⟨rfl, rfl, kpa⟩
    rw [if_pos d2] at hr
    subst hr
    have : ¬ w.heap.size = br := sza
    have : ¬ br = w.heap.size := sza
    have : ¬ w1.heap.size = w.heap.size := sza
    have : ¬ w.heap.size = w1.heap.size := sza
    have : ¬ w1.heap.size = br := sza
    have : ¬ br = w1.heap.size := sza
    have : ¬ w2.heap.size = w.heap.size := sza
    have : ¬ w.heap.size = w2.heap.size := sza
    have : ¬ w2.heap.size = w1.heap.size := sza
    have : ¬ w1.heap.size = w2.heap.size := sza
    have : ¬ w2.heap.size = br := sza
    have : ¬ br = w2.heap.size := sza
    have : ¬ w1.heap.size + 1 + 1 = w.heap.size := sza
    have : ¬ w.heap.size = w1.heap.size + 1 + 1 := sza
    have : ¬ w1.heap.size + 1 + 1 = w1.heap.size := sza
    have : ¬ w1.heap.size = w1.heap.size + 1 + 1 := sza
    have : ¬ w1.heap.size + 1 + 1 = w2.heap.size := sza
    have : ¬ w2.heap.size = w1.heap.size + 1 + 1 := sza
    have : ¬ w1.heap.size + 1 + 1 = br := sza
    have : ¬ br = w1.heap.size + 1 + 1 := sza
    go_wp2_with fail
    refine (expect_yes (toks := toks) (en := en) (lim := lim) (dep := dep) (pos := pos + 1) (rda) ⟨#[40]⟩ (by rw [mk_toList]; exact d1)).mono ?_
    rintro e w3 ⟨rfl, hr3, hk3⟩
    have z3 := hk3.size
    try simp at z3
    have lc3_0 := fun o => hk3.cell (w.heap.size) o sza sza
    have lf3_0 := fun o => hk3.frozen (w.heap.size) o sza sza
    have ll3_0 : w.heap.size < w3.heap.size := sza
    try simp at lc3_0
    try simp at lf3_0
    have lb3_0 := hk3.block (w.heap.size) sza sza
    have lc3_1 := fun o => hk3.cell (w1.heap.size) o sza sza
    have lf3_1 := fun o => hk3.frozen (w1.heap.size) o sza sza
    have ll3_1 : w1.heap.size < w3.heap.size := sza
    try simp at lc3_1
    try simp at lf3_1
    have lb3_1 := hk3.block (w1.heap.size) sza sza
    have lc3_2 := fun o => hk3.cell (w2.heap.size) o sza sza
    have lf3_2 := fun o => hk3.frozen (w2.heap.size) o sza sza
    have ll3_2 : w2.heap.size < w3.heap.size := sza
    try simp at lc3_2
    try simp at lf3_2
    have lb3_2 := hk3.block (w2.heap.size) sza sza
    have lc3_3 := fun o => hk3.cell (w1.heap.size + 1 + 1) o sza sza
    have lf3_3 := fun o => hk3.frozen (w1.heap.size + 1 + 1) o sza sza
    have ll3_3 : w1.heap.size + 1 + 1 < w3.heap.size := sza
    try simp at lc3_3
    try simp at lf3_3
    have lb3_3 := hk3.block (w1.heap.size + 1 + 1) sza sza
    go_wp2_with fail
    refine (expect_yes (toks := toks) (en := en) (lim := lim) (dep := dep) (pos := pos + 1 + 1) (rda) ⟨#[41]⟩ (by rw [mk_toList]; exact d2)).mono ?_
    rintro e w4 ⟨rfl, hr4, hk4⟩
    have z4 := hk4.size
    try simp at z4
    have lc4_0 := fun o => hk4.cell (w.heap.size) o sza sza
    have lf4_0 := fun o => hk4.frozen (w.heap.size) o sza sza
    have ll4_0 : w.heap.size < w4.heap.size := sza
    try simp at lc4_0
    try simp at lf4_0
    have lb4_0 := hk4.block (w.heap.size) sza sza
    have lc4_1 := fun o => hk4.cell (w1.heap.size) o sza sza
    have lf4_1 := fun o => hk4.frozen (w1.heap.size) o sza sza
    have ll4_1 : w1.heap.size < w4.heap.size := sza
    try simp at lc4_1
    try simp at lf4_1
    have lb4_1 := hk4.block (w1.heap.size) sza sza
    have lc4_2 := fun o => hk4.cell (w2.heap.size) o sza sza
    have lf4_2 := fun o => hk4.frozen (w2.heap.size) o sza sza
    have ll4_2 : w2.heap.size < w4.heap.size := sza
    try simp at lc4_2
    try simp at lf4_2
    have lb4_2 := hk4.block (w2.heap.size) sza sza
    have lc4_3 := fun o => hk4.cell (w1.heap.size + 1 + 1) o sza sza
    have lf4_3 := fun o => hk4.frozen (w1.heap.size + 1 + 1) o sza sza
    have ll4_3 : w1.heap.size + 1 + 1 < w4.heap.size := sza
    try simp at lc4_3
    try simp at lf4_3
    have lb4_3 := hk4.block (w1.heap.size + 1 + 1) sza sza
    have B4 : Blk w4 (w1.heap.size + 1 + 1) #[.int .i64 17, .string ⟨#[]⟩, .string ⟨#[]⟩, .int .i64 0, .int .i64 at_, .slice none 0 0] 108 := bka
    go_wp2
    refine bodyPost_ret (v := .agg #[ptrV (w1.heap.size + 1 + 1)]) (by simp [results, Tryz.results237, go_sem, *]) rfl ?_
    refine ⟨_, rfl, ?_, rda, kpa⟩
    refine IsX.isT _ _ (IsX.leaf (name := []) (typ := []) (ex := []) (by omega) (by simp; omega) (by simp) ?_)
    rw [hS_ne e5, hS_eq, B4.blk]
    rfl
  rw [if_neg c4] at hr
  change ¬ tx = [114, 101, 97, 100] at c4
  replace c4 : (tx == [114, 101, 97, 100]) = false := by simpa using c4
  subst hr
  go_wp2
  refine bodyPost_ret (v := .agg #[ptrV (w1.heap.size + 1 + 1)]) (by simp [results, Tryz.results237, go_sem, *]) rfl ?_
  refine ⟨_, rfl, ?_, rda, kpa⟩
  refine IsX.isT _ _ (IsX.leaf (name := []) (typ := []) (ex := []) (by omega) (by simp; omega) (by simp) ?_)
  rw [hA_old sza, hS_ne e5, B2.blk]
  rfl

end Go.Proofs.YtbplaekabeggkaaGreatDoor

namespace Go.Proofs.YtbplaekabeggkaaGreatDoor
open Go.RowKit

set_option maxRecDepth 100000 in
set_option maxHeartbeats 10000000 in
theorem primary_step {k : Nat} (hN : CNum) (hNm : CNamed k) (hB : CBrackets k) : CPrimary (k + 1) := by
  intro toks en br lim pos dep w r hR hd hr
  have hlim := hR.limle
  have hbr := hR.lt
  have htl := hR.text pos
  rw [pPrimary] at hr
  try dsimp only at hr
  have hi := is_c (hR.alloc (.cells #[.pointer none] 30))
  by_cases k3 : (tokAt toks en pos).kind = 3
  · rw [if_pos k3] at hr
    cases hr
    have hp : pos < toks.length := tok_lt (en := en) (by rw [k3]; decide)
    have HN := fun w1 => number_c hN (tokAt toks en pos) w1 htl (hR.numOk pos k3)
    clear hN hNm hB hi
    have hn := now_c (hR.alloc (.cells #[.pointer none] 30))
    rw [k3] at hn HN
    have : ¬ w.heap.size = br := sza
    have : ¬ br = w.heap.size := sza
    go_enter Tryz.func233, Tryz.ntmps233
    go_wp2_with fail
    refine (hn).mono ?_
    rintro e w1 ⟨rfl, hk1⟩
    have z1 := hk1.size
    try simp at z1
    have lc1_0 := fun o => hk1.cell (w.heap.size) o sza sza
    have lf1_0 := fun o => hk1.frozen (w.heap.size) o sza sza
    have ll1_0 : w.heap.size < w1.heap.size := sza
    try simp at lc1_0
    try simp at lf1_0
    have lb1_0 := hk1.block (w.heap.size) sza sza
    have hr1 : Rdr toks en br lim pos dep w1 := rda
    have ht := take_c hr1 hp
    rw [k3] at ht
    go_wp2_with fail
    refine (ht).mono ?_
    rintro e w2 ⟨rfl, hr2, hk2⟩
    have z2 := hk2.size
    try simp at z2
    have lc2_0 := fun o => hk2.cell (w.heap.size) o sza sza
    have lf2_0 := fun o => hk2.frozen (w.heap.size) o sza sza
    have ll2_0 : w.heap.size < w2.heap.size := sza
    try simp at lc2_0
    try simp at lf2_0
    have lb2_0 := hk2.block (w.heap.size) sza sza
    go_wp2_with fail
    refine (HN _).mono ?_
    rintro e w3 ⟨b, hb1, hb2, rfl, b3, hk3⟩
    have z3 := hk3.size
    try simp at z3
    have lc3_0 := fun o => hk3.cell (w.heap.size) o sza sza
    have lf3_0 := fun o => hk3.frozen (w.heap.size) o sza sza
    have ll3_0 : w.heap.size < w3.heap.size := sza
    try simp at lc3_0
    try simp at lf3_0
    have lb3_0 := hk3.block (w.heap.size) sza sza
    have B3 := Blk.mk b3
    clear b3
    go_wp2
    refine bodyPost_ret (v := .agg #[ptrV b]) (by simp [results, Tryz.results233, go_sem, *]) rfl ?_
    refine ⟨_, rfl, ?_, rda, kpa⟩
    exact IsX.isT _ _ (IsX.leaf (name := []) (typ := []) (ex := []) (by omega) (by simp; omega) (by simp) (Blk.blk (t := 108) (bka)))
  rw [if_neg k3] at hr
  have K3 := Lib.hid k3
  have kk3 : ((tokAt toks en pos).kind == 3) = false := by simpa using k3
  clear k3
  by_cases k1 : (tokAt toks en pos).kind = 1
  · rw [if_pos k1] at hr
    have HN := fun w1 (h1 : Rdr toks en br lim pos dep w1) => hNm _ _ _ _ _ _ w1 r h1 hd k1 hr
    clear hN hNm hB hi
    have : ¬ w.heap.size = br := sza
    have : ¬ br = w.heap.size := sza
    have hn := now_c (hR.alloc (.cells #[.pointer none] 30))
    rw [k1] at hn
    go_enter Tryz.func233, Tryz.ntmps233
    go_wp2_with fail
    refine (hn).mono ?_
    rintro e w1 ⟨rfl, hk1⟩
    have z1 := hk1.size
    try simp at z1
    have lc1_0 := fun o => hk1.cell (w.heap.size) o sza sza
    have lf1_0 := fun o => hk1.frozen (w.heap.size) o sza sza
    have ll1_0 : w.heap.size < w1.heap.size := sza
    try simp at lc1_0
    try simp at lf1_0
    have lb1_0 := hk1.block (w.heap.size) sza sza
    have hr1 : Rdr toks en br lim pos dep w1 := rda
    have hn1 := now_c hr1
    rw [k1] at hn1
    go_wp2_with fail
    refine (hn1).mono ?_
    rintro e w2 ⟨rfl, hk2⟩
    have z2 := hk2.size
    try simp at z2
    have lc2_0 := fun o => hk2.cell (w.heap.size) o sza sza
    have lf2_0 := fun o => hk2.frozen (w.heap.size) o sza sza
    have ll2_0 : w.heap.size < w2.heap.size := sza
    try simp at lc2_0
    try simp at lf2_0
    have lb2_0 := hk2.block (w.heap.size) sza sza
    have hr2 : Rdr toks en br lim pos dep w2 := rda
    go_wp2_with fail
    refine (HN _ hr2).mono ?_
    cases r with
    | stop a er =>
      rintro e w3 ⟨rfl, hk3⟩
      have z3 := hk3.size
      try simp at z3
      go_wp2
      exact ⟨rfl, rfl, kpa⟩
    | ok t p =>
      rintro e w3 ⟨b3, rfl, hT3, hr3, hk3⟩
      have z3 := hk3.size
      try simp at z3
      have lc3_0 := fun o => hk3.cell (w.heap.size) o sza sza
      have lf3_0 := fun o => hk3.frozen (w.heap.size) o sza sza
      have ll3_0 : w.heap.size < w3.heap.size := sza
      try simp at lc3_0
      try simp at lf3_0
      have lb3_0 := hk3.block (w.heap.size) sza sza
      go_wp2
      refine bodyPost_ret (v := .agg #[ptrV b3]) (by simp [results, Tryz.results233, go_sem, *]) rfl ?_
      refine ⟨b3, rfl, ?_, rda, kpa⟩
      refine IsT.frame sza sza (fun k hk hk' => ?_) _ _ hT3
      try simp at hk
      (repeat' (first | rfl | (rw [hS_ne (by first | omega | (simp; omega))]) | (rw [hA_old (by first | omega | (simp; omega))]) | (rw [hD]) | (rw [hDN])))
  rw [if_neg k1] at hr
  have kk1 : ((tokAt toks en pos).kind == 1) = false := by simpa using k1
  clear k1 hNm
  by_cases cl : isTok (tokAt toks en pos) kLpar = true
  · rw [if_pos cl] at hr
    have HB := fun w1 (h1 : Rdr toks en br lim pos dep w1) => hB _ _ _ _ _ _ w1 r h1 hd hr
    clear hN hB hi
    have : ¬ w.heap.size = br := sza
    have : ¬ br = w.heap.size := sza
    have hn := now_c (hR.alloc (.cells #[.pointer none] 30))
    generalize hkd : (tokAt toks en pos).kind = kd at *
    have K3' := K3.out
    clear K3
    go_enter Tryz.func233, Tryz.ntmps233
    go_wp2_with fail
    refine (hn).mono ?_
    rintro e w1 ⟨rfl, hk1⟩
    have z1 := hk1.size
    try simp at z1
    have lc1_0 := fun o => hk1.cell (w.heap.size) o sza sza
    have lf1_0 := fun o => hk1.frozen (w.heap.size) o sza sza
    have ll1_0 : w.heap.size < w1.heap.size := sza
    try simp at lc1_0
    try simp at lf1_0
    have lb1_0 := hk1.block (w.heap.size) sza sza
    have hr1 : Rdr toks en br lim pos dep w1 := rda
    have hn1 := now_c hr1
    rw [hkd] at hn1
    go_wp2_with fail
    refine (hn1).mono ?_
    rintro e w2 ⟨rfl, hk2⟩
    have z2 := hk2.size
    try simp at z2
    have lc2_0 := fun o => hk2.cell (w.heap.size) o sza sza
    have lf2_0 := fun o => hk2.frozen (w.heap.size) o sza sza
    have ll2_0 : w.heap.size < w2.heap.size := sza
    try simp at lc2_0
    try simp at lf2_0
    have lb2_0 := hk2.block (w.heap.size) sza sza
    have hr2 : Rdr toks en br lim pos dep w2 := rda
    go_wp2_with fail
    refine ((is_c (pos := pos) (dep := dep) (toks := toks) (en := en) (lim := lim) (rda) ⟨#[40]⟩).mono ?_)
    rw [mk_toList, show isTok _ (#[40] : Array UInt8).toList = true from cl]
    rintro e w3 ⟨rfl, hk3⟩
    have z3 := hk3.size
    try simp at z3
    have lc3_0 := fun o => hk3.cell (w.heap.size) o sza sza
    have lf3_0 := fun o => hk3.frozen (w.heap.size) o sza sza
    have ll3_0 : w.heap.size < w3.heap.size := sza
    try simp at lc3_0
    try simp at lf3_0
    have lb3_0 := hk3.block (w.heap.size) sza sza
    have hr3 : Rdr toks en br lim pos dep w3 := rda
    go_wp2_with fail
    refine (HB _ hr3).mono ?_
    cases r with
    | stop a er =>
      rintro e w4 ⟨rfl, hk4⟩
      have z4 := hk4.size
      try simp at z4
      go_wp2
      exact ⟨rfl, rfl, kpa⟩
    | ok t p =>
      rintro e w4 ⟨b4, rfl, hT4, hr4, hk4⟩
      have z4 := hk4.size
      try simp at z4
      have lc4_0 := fun o => hk4.cell (w.heap.size) o sza sza
      have lf4_0 := fun o => hk4.frozen (w.heap.size) o sza sza
      have ll4_0 : w.heap.size < w4.heap.size := sza
      try simp at lc4_0
      try simp at lf4_0
      have lb4_0 := hk4.block (w.heap.size) sza sza
      go_wp2
      refine bodyPost_ret (v := .agg #[ptrV b4]) (by simp [results, Tryz.results233, go_sem, *]) rfl ?_
      refine ⟨b4, rfl, ?_, rda, kpa⟩
      refine IsT.frame sza sza (fun k hk hk' => ?_) _ _ hT4
      try simp at hk
      (repeat' (first | rfl | (rw [hS_ne (by first | omega | (simp; omega))]) | (rw [hA_old (by first | omega | (simp; omega))]) | (rw [hD]) | (rw [hDN])))
  rw [if_neg cl] at hr
  rw [Bool.not_eq_true] at cl
  clear hB hN hi
  by_cases cn : isTok (tokAt toks en pos) kNil = true
  · rw [if_pos (by simp [cn])] at hr
    have hp := isTok_lt cn
    have HK := fun w1 (h1 : Rdr toks en br lim pos dep w1) => key_c h1 hp r (Option.some.inj hr)
    clear hr
    have : ¬ w.heap.size = br := sza
    have : ¬ br = w.heap.size := sza
    have hn := now_c (hR.alloc (.cells #[.pointer none] 30))
    generalize hkd : (tokAt toks en pos).kind = kd at *
    have K3' := K3.out
    clear K3
    go_enter Tryz.func233, Tryz.ntmps233
    go_wp2_with fail
    refine (hn).mono ?_
    rintro e w1 ⟨rfl, hk1⟩
    have z1 := hk1.size
    try simp at z1
    have lc1_0 := fun o => hk1.cell (w.heap.size) o sza sza
    have lf1_0 := fun o => hk1.frozen (w.heap.size) o sza sza
    have ll1_0 : w.heap.size < w1.heap.size := sza
    try simp at lc1_0
    try simp at lf1_0
    have lb1_0 := hk1.block (w.heap.size) sza sza
    have hr1 : Rdr toks en br lim pos dep w1 := rda
    have hn1 := now_c hr1
    rw [hkd] at hn1
    go_wp2_with fail
    refine (hn1).mono ?_
    rintro e w2 ⟨rfl, hk2⟩
    have z2 := hk2.size
    try simp at z2
    have lc2_0 := fun o => hk2.cell (w.heap.size) o sza sza
    have lf2_0 := fun o => hk2.frozen (w.heap.size) o sza sza
    have ll2_0 : w.heap.size < w2.heap.size := sza
    try simp at lc2_0
    try simp at lf2_0
    have lb2_0 := hk2.block (w.heap.size) sza sza
    have hr2 : Rdr toks en br lim pos dep w2 := rda
    go_wp2_with fail
    refine ((is_c (pos := pos) (dep := dep) (toks := toks) (en := en) (lim := lim) (rda) ⟨#[40]⟩).mono ?_)
    rw [mk_toList, show isTok _ (#[40] : Array UInt8).toList = false from cl]
    rintro e w3 ⟨rfl, hk3⟩
    have z3 := hk3.size
    try simp at z3
    have lc3_0 := fun o => hk3.cell (w.heap.size) o sza sza
    have lf3_0 := fun o => hk3.frozen (w.heap.size) o sza sza
    have ll3_0 : w.heap.size < w3.heap.size := sza
    try simp at lc3_0
    try simp at lf3_0
    have lb3_0 := hk3.block (w.heap.size) sza sza
    have hr3 : Rdr toks en br lim pos dep w3 := rda
    go_wp2_with fail
    refine ((is_c (pos := pos) (dep := dep) (toks := toks) (en := en) (lim := lim) (rda) ⟨#[110,105,108]⟩).mono ?_)
    rw [mk_toList, show isTok _ (#[110,105,108] : Array UInt8).toList = true from cn]
    rintro e w4 ⟨rfl, hk4⟩
    have z4 := hk4.size
    try simp at z4
    have lc4_0 := fun o => hk4.cell (w.heap.size) o sza sza
    have lf4_0 := fun o => hk4.frozen (w.heap.size) o sza sza
    have ll4_0 : w.heap.size < w4.heap.size := sza
    try simp at lc4_0
    try simp at lf4_0
    have lb4_0 := hk4.block (w.heap.size) sza sza
    have hr4 : Rdr toks en br lim pos dep w4 := rda
    go_wp2_with fail
    refine (HK _ hr4).mono ?_
    cases r with
    | stop a er =>
      rintro e w5 ⟨rfl, hk5⟩
      have z5 := hk5.size
      try simp at z5
      go_wp2
      exact ⟨rfl, rfl, kpa⟩
    | ok t p =>
      rintro e w5 ⟨b5, rfl, hT5, hr5, hk5⟩
      have z5 := hk5.size
      try simp at z5
      have lc5_0 := fun o => hk5.cell (w.heap.size) o sza sza
      have lf5_0 := fun o => hk5.frozen (w.heap.size) o sza sza
      have ll5_0 : w.heap.size < w5.heap.size := sza
      try simp at lc5_0
      try simp at lf5_0
      have lb5_0 := hk5.block (w.heap.size) sza sza
      go_wp2
      refine bodyPost_ret (v := .agg #[ptrV b5]) (by simp [results, Tryz.results233, go_sem, *]) rfl ?_
      refine ⟨b5, rfl, ?_, rda, kpa⟩
      refine IsT.frame sza sza (fun k hk hk' => ?_) _ _ hT5
      try simp at hk
      (repeat' (first | rfl | (rw [hS_ne (by first | omega | (simp; omega))]) | (rw [hA_old (by first | omega | (simp; omega))]) | (rw [hD]) | (rw [hDN])))
  rw [Bool.not_eq_true] at cn
  by_cases ct : isTok (tokAt toks en pos) kTrue = true
  · rw [if_pos (by simp [ct])] at hr
    have hp := isTok_lt ct
    have HK := fun w1 (h1 : Rdr toks en br lim pos dep w1) => key_c h1 hp r (Option.some.inj hr)
    clear hr
    have : ¬ w.heap.size = br := sza
    have : ¬ br = w.heap.size := sza
    have hn := now_c (hR.alloc (.cells #[.pointer none] 30))
    generalize hkd : (tokAt toks en pos).kind = kd at *
    have K3' := K3.out
    clear K3
    go_enter Tryz.func233, Tryz.ntmps233
    go_wp2_with fail
    refine (hn).mono ?_
    rintro e w1 ⟨rfl, hk1⟩
    have z1 := hk1.size
    try simp at z1
    have lc1_0 := fun o => hk1.cell (w.heap.size) o sza sza
    have lf1_0 := fun o => hk1.frozen (w.heap.size) o sza sza
    have ll1_0 : w.heap.size < w1.heap.size := sza
    try simp at lc1_0
    try simp at lf1_0
    have lb1_0 := hk1.block (w.heap.size) sza sza
    have hr1 : Rdr toks en br lim pos dep w1 := rda
    have hn1 := now_c hr1
    rw [hkd] at hn1
    go_wp2_with fail
    refine (hn1).mono ?_
    rintro e w2 ⟨rfl, hk2⟩
    have z2 := hk2.size
    try simp at z2
    have lc2_0 := fun o => hk2.cell (w.heap.size) o sza sza
    have lf2_0 := fun o => hk2.frozen (w.heap.size) o sza sza
    have ll2_0 : w.heap.size < w2.heap.size := sza
    try simp at lc2_0
    try simp at lf2_0
    have lb2_0 := hk2.block (w.heap.size) sza sza
    have hr2 : Rdr toks en br lim pos dep w2 := rda
    go_wp2_with fail
    refine ((is_c (pos := pos) (dep := dep) (toks := toks) (en := en) (lim := lim) (rda) ⟨#[40]⟩).mono ?_)
    rw [mk_toList, show isTok _ (#[40] : Array UInt8).toList = false from cl]
    rintro e w3 ⟨rfl, hk3⟩
    have z3 := hk3.size
    try simp at z3
    have lc3_0 := fun o => hk3.cell (w.heap.size) o sza sza
    have lf3_0 := fun o => hk3.frozen (w.heap.size) o sza sza
    have ll3_0 : w.heap.size < w3.heap.size := sza
    try simp at lc3_0
    try simp at lf3_0
    have lb3_0 := hk3.block (w.heap.size) sza sza
    have hr3 : Rdr toks en br lim pos dep w3 := rda
    go_wp2_with fail
    refine ((is_c (pos := pos) (dep := dep) (toks := toks) (en := en) (lim := lim) (rda) ⟨#[110,105,108]⟩).mono ?_)
    rw [mk_toList, show isTok _ (#[110,105,108] : Array UInt8).toList = false from cn]
    rintro e w4 ⟨rfl, hk4⟩
    have z4 := hk4.size
    try simp at z4
    have lc4_0 := fun o => hk4.cell (w.heap.size) o sza sza
    have lf4_0 := fun o => hk4.frozen (w.heap.size) o sza sza
    have ll4_0 : w.heap.size < w4.heap.size := sza
    try simp at lc4_0
    try simp at lf4_0
    have lb4_0 := hk4.block (w.heap.size) sza sza
    have hr4 : Rdr toks en br lim pos dep w4 := rda
    go_wp2_with fail
    refine ((is_c (pos := pos) (dep := dep) (toks := toks) (en := en) (lim := lim) (rda) ⟨#[116,114,117,101]⟩).mono ?_)
    rw [mk_toList, show isTok _ (#[116,114,117,101] : Array UInt8).toList = true from ct]
    rintro e w5 ⟨rfl, hk5⟩
    have z5 := hk5.size
    try simp at z5
    have lc5_0 := fun o => hk5.cell (w.heap.size) o sza sza
    have lf5_0 := fun o => hk5.frozen (w.heap.size) o sza sza
    have ll5_0 : w.heap.size < w5.heap.size := sza
    try simp at lc5_0
    try simp at lf5_0
    have lb5_0 := hk5.block (w.heap.size) sza sza
    have hr5 : Rdr toks en br lim pos dep w5 := rda
    go_wp2_with fail
    refine (HK _ hr5).mono ?_
    cases r with
    | stop a er =>
      rintro e w6 ⟨rfl, hk6⟩
      have z6 := hk6.size
      try simp at z6
      go_wp2
      exact ⟨rfl, rfl, kpa⟩
    | ok t p =>
      rintro e w6 ⟨b6, rfl, hT6, hr6, hk6⟩
      have z6 := hk6.size
      try simp at z6
      have lc6_0 := fun o => hk6.cell (w.heap.size) o sza sza
      have lf6_0 := fun o => hk6.frozen (w.heap.size) o sza sza
      have ll6_0 : w.heap.size < w6.heap.size := sza
      try simp at lc6_0
      try simp at lf6_0
      have lb6_0 := hk6.block (w.heap.size) sza sza
      go_wp2
      refine bodyPost_ret (v := .agg #[ptrV b6]) (by simp [results, Tryz.results233, go_sem, *]) rfl ?_
      refine ⟨b6, rfl, ?_, rda, kpa⟩
      refine IsT.frame sza sza (fun k hk hk' => ?_) _ _ hT6
      try simp at hk
      (repeat' (first | rfl | (rw [hS_ne (by first | omega | (simp; omega))]) | (rw [hA_old (by first | omega | (simp; omega))]) | (rw [hD]) | (rw [hDN])))
  rw [Bool.not_eq_true] at ct
  by_cases cf : isTok (tokAt toks en pos) kFalse = true
  · rw [if_pos (by simp [cf])] at hr
    have hp := isTok_lt cf
    have HK := fun w1 (h1 : Rdr toks en br lim pos dep w1) => key_c h1 hp r (Option.some.inj hr)
    clear hr
    have : ¬ w.heap.size = br := sza
    have : ¬ br = w.heap.size := sza
    have hn := now_c (hR.alloc (.cells #[.pointer none] 30))
    generalize hkd : (tokAt toks en pos).kind = kd at *
    have K3' := K3.out
    clear K3
    go_enter Tryz.func233, Tryz.ntmps233
    go_wp2_with fail
    refine (hn).mono ?_
    rintro e w1 ⟨rfl, hk1⟩
    have z1 := hk1.size
    try simp at z1
    have lc1_0 := fun o => hk1.cell (w.heap.size) o sza sza
    have lf1_0 := fun o => hk1.frozen (w.heap.size) o sza sza
    have ll1_0 : w.heap.size < w1.heap.size := sza
    try simp at lc1_0
    try simp at lf1_0
    have lb1_0 := hk1.block (w.heap.size) sza sza
    have hr1 : Rdr toks en br lim pos dep w1 := rda
    have hn1 := now_c hr1
    rw [hkd] at hn1
    go_wp2_with fail
    refine (hn1).mono ?_
    rintro e w2 ⟨rfl, hk2⟩
    have z2 := hk2.size
    try simp at z2
    have lc2_0 := fun o => hk2.cell (w.heap.size) o sza sza
    have lf2_0 := fun o => hk2.frozen (w.heap.size) o sza sza
    have ll2_0 : w.heap.size < w2.heap.size := sza
    try simp at lc2_0
    try simp at lf2_0
    have lb2_0 := hk2.block (w.heap.size) sza sza
    have hr2 : Rdr toks en br lim pos dep w2 := rda
    go_wp2_with fail
    refine ((is_c (pos := pos) (dep := dep) (toks := toks) (en := en) (lim := lim) (rda) ⟨#[40]⟩).mono ?_)
    rw [mk_toList, show isTok _ (#[40] : Array UInt8).toList = false from cl]
    rintro e w3 ⟨rfl, hk3⟩
    have z3 := hk3.size
    try simp at z3
    have lc3_0 := fun o => hk3.cell (w.heap.size) o sza sza
    have lf3_0 := fun o => hk3.frozen (w.heap.size) o sza sza
    have ll3_0 : w.heap.size < w3.heap.size := sza
    try simp at lc3_0
    try simp at lf3_0
    have lb3_0 := hk3.block (w.heap.size) sza sza
    have hr3 : Rdr toks en br lim pos dep w3 := rda
    go_wp2_with fail
    refine ((is_c (pos := pos) (dep := dep) (toks := toks) (en := en) (lim := lim) (rda) ⟨#[110,105,108]⟩).mono ?_)
    rw [mk_toList, show isTok _ (#[110,105,108] : Array UInt8).toList = false from cn]
    rintro e w4 ⟨rfl, hk4⟩
    have z4 := hk4.size
    try simp at z4
    have lc4_0 := fun o => hk4.cell (w.heap.size) o sza sza
    have lf4_0 := fun o => hk4.frozen (w.heap.size) o sza sza
    have ll4_0 : w.heap.size < w4.heap.size := sza
    try simp at lc4_0
    try simp at lf4_0
    have lb4_0 := hk4.block (w.heap.size) sza sza
    have hr4 : Rdr toks en br lim pos dep w4 := rda
    go_wp2_with fail
    refine ((is_c (pos := pos) (dep := dep) (toks := toks) (en := en) (lim := lim) (rda) ⟨#[116,114,117,101]⟩).mono ?_)
    rw [mk_toList, show isTok _ (#[116,114,117,101] : Array UInt8).toList = false from ct]
    rintro e w5 ⟨rfl, hk5⟩
    have z5 := hk5.size
    try simp at z5
    have lc5_0 := fun o => hk5.cell (w.heap.size) o sza sza
    have lf5_0 := fun o => hk5.frozen (w.heap.size) o sza sza
    have ll5_0 : w.heap.size < w5.heap.size := sza
    try simp at lc5_0
    try simp at lf5_0
    have lb5_0 := hk5.block (w.heap.size) sza sza
    have hr5 : Rdr toks en br lim pos dep w5 := rda
    go_wp2_with fail
    refine ((is_c (pos := pos) (dep := dep) (toks := toks) (en := en) (lim := lim) (rda) ⟨#[102,97,108,115,101]⟩).mono ?_)
    rw [mk_toList, show isTok _ (#[102,97,108,115,101] : Array UInt8).toList = true from cf]
    rintro e w6 ⟨rfl, hk6⟩
    have z6 := hk6.size
    try simp at z6
    have lc6_0 := fun o => hk6.cell (w.heap.size) o sza sza
    have lf6_0 := fun o => hk6.frozen (w.heap.size) o sza sza
    have ll6_0 : w.heap.size < w6.heap.size := sza
    try simp at lc6_0
    try simp at lf6_0
    have lb6_0 := hk6.block (w.heap.size) sza sza
    have hr6 : Rdr toks en br lim pos dep w6 := rda
    go_wp2_with fail
    refine (HK _ hr6).mono ?_
    cases r with
    | stop a er =>
      rintro e w7 ⟨rfl, hk7⟩
      have z7 := hk7.size
      try simp at z7
      go_wp2
      exact ⟨rfl, rfl, kpa⟩
    | ok t p =>
      rintro e w7 ⟨b7, rfl, hT7, hr7, hk7⟩
      have z7 := hk7.size
      try simp at z7
      have lc7_0 := fun o => hk7.cell (w.heap.size) o sza sza
      have lf7_0 := fun o => hk7.frozen (w.heap.size) o sza sza
      have ll7_0 : w.heap.size < w7.heap.size := sza
      try simp at lc7_0
      try simp at lf7_0
      have lb7_0 := hk7.block (w.heap.size) sza sza
      go_wp2
      refine bodyPost_ret (v := .agg #[ptrV b7]) (by simp [results, Tryz.results233, go_sem, *]) rfl ?_
      refine ⟨b7, rfl, ?_, rda, kpa⟩
      refine IsT.frame sza sza (fun k hk hk' => ?_) _ _ hT7
      try simp at hk
      (repeat' (first | rfl | (rw [hS_ne (by first | omega | (simp; omega))]) | (rw [hA_old (by first | omega | (simp; omega))]) | (rw [hD]) | (rw [hDN])))
  rw [Bool.not_eq_true] at cf
  by_cases cw : isTok (tokAt toks en pos) kNew = true
  · rw [if_pos (by simp [cw])] at hr
    have hp := isTok_lt cw
    have HK := fun w1 (h1 : Rdr toks en br lim pos dep w1) => key_c h1 hp r (Option.some.inj hr)
    clear hr
    have : ¬ w.heap.size = br := sza
    have : ¬ br = w.heap.size := sza
    have hn := now_c (hR.alloc (.cells #[.pointer none] 30))
    generalize hkd : (tokAt toks en pos).kind = kd at *
    have K3' := K3.out
    clear K3
    go_enter Tryz.func233, Tryz.ntmps233
    go_wp2_with fail
    refine (hn).mono ?_
    rintro e w1 ⟨rfl, hk1⟩
    have z1 := hk1.size
    try simp at z1
    have lc1_0 := fun o => hk1.cell (w.heap.size) o sza sza
    have lf1_0 := fun o => hk1.frozen (w.heap.size) o sza sza
    have ll1_0 : w.heap.size < w1.heap.size := sza
    try simp at lc1_0
    try simp at lf1_0
    have lb1_0 := hk1.block (w.heap.size) sza sza
    have hr1 : Rdr toks en br lim pos dep w1 := rda
    have hn1 := now_c hr1
    rw [hkd] at hn1
    go_wp2_with fail
    refine (hn1).mono ?_
    rintro e w2 ⟨rfl, hk2⟩
    have z2 := hk2.size
    try simp at z2
    have lc2_0 := fun o => hk2.cell (w.heap.size) o sza sza
    have lf2_0 := fun o => hk2.frozen (w.heap.size) o sza sza
    have ll2_0 : w.heap.size < w2.heap.size := sza
    try simp at lc2_0
    try simp at lf2_0
    have lb2_0 := hk2.block (w.heap.size) sza sza
    have hr2 : Rdr toks en br lim pos dep w2 := rda
    go_wp2_with fail
    refine ((is_c (pos := pos) (dep := dep) (toks := toks) (en := en) (lim := lim) (rda) ⟨#[40]⟩).mono ?_)
    rw [mk_toList, show isTok _ (#[40] : Array UInt8).toList = false from cl]
    rintro e w3 ⟨rfl, hk3⟩
    have z3 := hk3.size
    try simp at z3
    have lc3_0 := fun o => hk3.cell (w.heap.size) o sza sza
    have lf3_0 := fun o => hk3.frozen (w.heap.size) o sza sza
    have ll3_0 : w.heap.size < w3.heap.size := sza
    try simp at lc3_0
    try simp at lf3_0
    have lb3_0 := hk3.block (w.heap.size) sza sza
    have hr3 : Rdr toks en br lim pos dep w3 := rda
    go_wp2_with fail
    refine ((is_c (pos := pos) (dep := dep) (toks := toks) (en := en) (lim := lim) (rda) ⟨#[110,105,108]⟩).mono ?_)
    rw [mk_toList, show isTok _ (#[110,105,108] : Array UInt8).toList = false from cn]
    rintro e w4 ⟨rfl, hk4⟩
    have z4 := hk4.size
    try simp at z4
    have lc4_0 := fun o => hk4.cell (w.heap.size) o sza sza
    have lf4_0 := fun o => hk4.frozen (w.heap.size) o sza sza
    have ll4_0 : w.heap.size < w4.heap.size := sza
    try simp at lc4_0
    try simp at lf4_0
    have lb4_0 := hk4.block (w.heap.size) sza sza
    have hr4 : Rdr toks en br lim pos dep w4 := rda
    go_wp2_with fail
    refine ((is_c (pos := pos) (dep := dep) (toks := toks) (en := en) (lim := lim) (rda) ⟨#[116,114,117,101]⟩).mono ?_)
    rw [mk_toList, show isTok _ (#[116,114,117,101] : Array UInt8).toList = false from ct]
    rintro e w5 ⟨rfl, hk5⟩
    have z5 := hk5.size
    try simp at z5
    have lc5_0 := fun o => hk5.cell (w.heap.size) o sza sza
    have lf5_0 := fun o => hk5.frozen (w.heap.size) o sza sza
    have ll5_0 : w.heap.size < w5.heap.size := sza
    try simp at lc5_0
    try simp at lf5_0
    have lb5_0 := hk5.block (w.heap.size) sza sza
    have hr5 : Rdr toks en br lim pos dep w5 := rda
    go_wp2_with fail
    refine ((is_c (pos := pos) (dep := dep) (toks := toks) (en := en) (lim := lim) (rda) ⟨#[102,97,108,115,101]⟩).mono ?_)
    rw [mk_toList, show isTok _ (#[102,97,108,115,101] : Array UInt8).toList = false from cf]
    rintro e w6 ⟨rfl, hk6⟩
    have z6 := hk6.size
    try simp at z6
    have lc6_0 := fun o => hk6.cell (w.heap.size) o sza sza
    have lf6_0 := fun o => hk6.frozen (w.heap.size) o sza sza
    have ll6_0 : w.heap.size < w6.heap.size := sza
    try simp at lc6_0
    try simp at lf6_0
    have lb6_0 := hk6.block (w.heap.size) sza sza
    have hr6 : Rdr toks en br lim pos dep w6 := rda
    go_wp2_with fail
    refine ((is_c (pos := pos) (dep := dep) (toks := toks) (en := en) (lim := lim) (rda) ⟨#[110,101,119]⟩).mono ?_)
    rw [mk_toList, show isTok _ (#[110,101,119] : Array UInt8).toList = true from cw]
    rintro e w7 ⟨rfl, hk7⟩
    have z7 := hk7.size
    try simp at z7
    have lc7_0 := fun o => hk7.cell (w.heap.size) o sza sza
    have lf7_0 := fun o => hk7.frozen (w.heap.size) o sza sza
    have ll7_0 : w.heap.size < w7.heap.size := sza
    try simp at lc7_0
    try simp at lf7_0
    have lb7_0 := hk7.block (w.heap.size) sza sza
    have hr7 : Rdr toks en br lim pos dep w7 := rda
    go_wp2_with fail
    refine (HK _ hr7).mono ?_
    cases r with
    | stop a er =>
      rintro e w8 ⟨rfl, hk8⟩
      have z8 := hk8.size
      try simp at z8
      go_wp2
      exact ⟨rfl, rfl, kpa⟩
    | ok t p =>
      rintro e w8 ⟨b8, rfl, hT8, hr8, hk8⟩
      have z8 := hk8.size
      try simp at z8
      have lc8_0 := fun o => hk8.cell (w.heap.size) o sza sza
      have lf8_0 := fun o => hk8.frozen (w.heap.size) o sza sza
      have ll8_0 : w.heap.size < w8.heap.size := sza
      try simp at lc8_0
      try simp at lf8_0
      have lb8_0 := hk8.block (w.heap.size) sza sza
      go_wp2
      refine bodyPost_ret (v := .agg #[ptrV b8]) (by simp [results, Tryz.results233, go_sem, *]) rfl ?_
      refine ⟨b8, rfl, ?_, rda, kpa⟩
      refine IsT.frame sza sza (fun k hk hk' => ?_) _ _ hT8
      try simp at hk
      (repeat' (first | rfl | (rw [hS_ne (by first | omega | (simp; omega))]) | (rw [hA_old (by first | omega | (simp; omega))]) | (rw [hD]) | (rw [hDN])))
  rw [Bool.not_eq_true] at cw
  by_cases cr : isTok (tokAt toks en pos) kRead = true
  · rw [if_pos (by simp [cr])] at hr
    have hp := isTok_lt cr
    have HK := fun w1 (h1 : Rdr toks en br lim pos dep w1) => key_c h1 hp r (Option.some.inj hr)
    clear hr
    have : ¬ w.heap.size = br := sza
    have : ¬ br = w.heap.size := sza
    have hn := now_c (hR.alloc (.cells #[.pointer none] 30))
    generalize hkd : (tokAt toks en pos).kind = kd at *
    have K3' := K3.out
    clear K3
    go_enter Tryz.func233, Tryz.ntmps233
    go_wp2_with fail
    refine (hn).mono ?_
    rintro e w1 ⟨rfl, hk1⟩
    have z1 := hk1.size
    try simp at z1
    have lc1_0 := fun o => hk1.cell (w.heap.size) o sza sza
    have lf1_0 := fun o => hk1.frozen (w.heap.size) o sza sza
    have ll1_0 : w.heap.size < w1.heap.size := sza
    try simp at lc1_0
    try simp at lf1_0
    have lb1_0 := hk1.block (w.heap.size) sza sza
    have hr1 : Rdr toks en br lim pos dep w1 := rda
    have hn1 := now_c hr1
    rw [hkd] at hn1
    go_wp2_with fail
    refine (hn1).mono ?_
    rintro e w2 ⟨rfl, hk2⟩
    have z2 := hk2.size
    try simp at z2
    have lc2_0 := fun o => hk2.cell (w.heap.size) o sza sza
    have lf2_0 := fun o => hk2.frozen (w.heap.size) o sza sza
    have ll2_0 : w.heap.size < w2.heap.size := sza
    try simp at lc2_0
    try simp at lf2_0
    have lb2_0 := hk2.block (w.heap.size) sza sza
    have hr2 : Rdr toks en br lim pos dep w2 := rda
    go_wp2_with fail
    refine ((is_c (pos := pos) (dep := dep) (toks := toks) (en := en) (lim := lim) (rda) ⟨#[40]⟩).mono ?_)
    rw [mk_toList, show isTok _ (#[40] : Array UInt8).toList = false from cl]
    rintro e w3 ⟨rfl, hk3⟩
    have z3 := hk3.size
    try simp at z3
    have lc3_0 := fun o => hk3.cell (w.heap.size) o sza sza
    have lf3_0 := fun o => hk3.frozen (w.heap.size) o sza sza
    have ll3_0 : w.heap.size < w3.heap.size := sza
    try simp at lc3_0
    try simp at lf3_0
    have lb3_0 := hk3.block (w.heap.size) sza sza
    have hr3 : Rdr toks en br lim pos dep w3 := rda
    go_wp2_with fail
    refine ((is_c (pos := pos) (dep := dep) (toks := toks) (en := en) (lim := lim) (rda) ⟨#[110,105,108]⟩).mono ?_)
    rw [mk_toList, show isTok _ (#[110,105,108] : Array UInt8).toList = false from cn]
    rintro e w4 ⟨rfl, hk4⟩
    have z4 := hk4.size
    try simp at z4
    have lc4_0 := fun o => hk4.cell (w.heap.size) o sza sza
    have lf4_0 := fun o => hk4.frozen (w.heap.size) o sza sza
    have ll4_0 : w.heap.size < w4.heap.size := sza
    try simp at lc4_0
    try simp at lf4_0
    have lb4_0 := hk4.block (w.heap.size) sza sza
    have hr4 : Rdr toks en br lim pos dep w4 := rda
    go_wp2_with fail
    refine ((is_c (pos := pos) (dep := dep) (toks := toks) (en := en) (lim := lim) (rda) ⟨#[116,114,117,101]⟩).mono ?_)
    rw [mk_toList, show isTok _ (#[116,114,117,101] : Array UInt8).toList = false from ct]
    rintro e w5 ⟨rfl, hk5⟩
    have z5 := hk5.size
    try simp at z5
    have lc5_0 := fun o => hk5.cell (w.heap.size) o sza sza
    have lf5_0 := fun o => hk5.frozen (w.heap.size) o sza sza
    have ll5_0 : w.heap.size < w5.heap.size := sza
    try simp at lc5_0
    try simp at lf5_0
    have lb5_0 := hk5.block (w.heap.size) sza sza
    have hr5 : Rdr toks en br lim pos dep w5 := rda
    go_wp2_with fail
    refine ((is_c (pos := pos) (dep := dep) (toks := toks) (en := en) (lim := lim) (rda) ⟨#[102,97,108,115,101]⟩).mono ?_)
    rw [mk_toList, show isTok _ (#[102,97,108,115,101] : Array UInt8).toList = false from cf]
    rintro e w6 ⟨rfl, hk6⟩
    have z6 := hk6.size
    try simp at z6
    have lc6_0 := fun o => hk6.cell (w.heap.size) o sza sza
    have lf6_0 := fun o => hk6.frozen (w.heap.size) o sza sza
    have ll6_0 : w.heap.size < w6.heap.size := sza
    try simp at lc6_0
    try simp at lf6_0
    have lb6_0 := hk6.block (w.heap.size) sza sza
    have hr6 : Rdr toks en br lim pos dep w6 := rda
    go_wp2_with fail
    refine ((is_c (pos := pos) (dep := dep) (toks := toks) (en := en) (lim := lim) (rda) ⟨#[110,101,119]⟩).mono ?_)
    rw [mk_toList, show isTok _ (#[110,101,119] : Array UInt8).toList = false from cw]
    rintro e w7 ⟨rfl, hk7⟩
    have z7 := hk7.size
    try simp at z7
    have lc7_0 := fun o => hk7.cell (w.heap.size) o sza sza
    have lf7_0 := fun o => hk7.frozen (w.heap.size) o sza sza
    have ll7_0 : w.heap.size < w7.heap.size := sza
    try simp at lc7_0
    try simp at lf7_0
    have lb7_0 := hk7.block (w.heap.size) sza sza
    have hr7 : Rdr toks en br lim pos dep w7 := rda
    go_wp2_with fail
    refine ((is_c (pos := pos) (dep := dep) (toks := toks) (en := en) (lim := lim) (rda) ⟨#[114,101,97,100]⟩).mono ?_)
    rw [mk_toList, show isTok _ (#[114,101,97,100] : Array UInt8).toList = true from cr]
    rintro e w8 ⟨rfl, hk8⟩
    have z8 := hk8.size
    try simp at z8
    have lc8_0 := fun o => hk8.cell (w.heap.size) o sza sza
    have lf8_0 := fun o => hk8.frozen (w.heap.size) o sza sza
    have ll8_0 : w.heap.size < w8.heap.size := sza
    try simp at lc8_0
    try simp at lf8_0
    have lb8_0 := hk8.block (w.heap.size) sza sza
    have hr8 : Rdr toks en br lim pos dep w8 := rda
    go_wp2_with fail
    refine (HK _ hr8).mono ?_
    cases r with
    | stop a er =>
      rintro e w9 ⟨rfl, hk9⟩
      have z9 := hk9.size
      try simp at z9
      go_wp2
      exact ⟨rfl, rfl, kpa⟩
    | ok t p =>
      rintro e w9 ⟨b9, rfl, hT9, hr9, hk9⟩
      have z9 := hk9.size
      try simp at z9
      have lc9_0 := fun o => hk9.cell (w.heap.size) o sza sza
      have lf9_0 := fun o => hk9.frozen (w.heap.size) o sza sza
      have ll9_0 : w.heap.size < w9.heap.size := sza
      try simp at lc9_0
      try simp at lf9_0
      have lb9_0 := hk9.block (w.heap.size) sza sza
      go_wp2
      refine bodyPost_ret (v := .agg #[ptrV b9]) (by simp [results, Tryz.results233, go_sem, *]) rfl ?_
      refine ⟨b9, rfl, ?_, rda, kpa⟩
      refine IsT.frame sza sza (fun k hk hk' => ?_) _ _ hT9
      try simp at hk
      (repeat' (first | rfl | (rw [hS_ne (by first | omega | (simp; omega))]) | (rw [hA_old (by first | omega | (simp; omega))]) | (rw [hD]) | (rw [hDN])))
  rw [Bool.not_eq_true] at cr
  rw [if_neg (by simp [cn, ct, cf, cw, cr])] at hr
  cases hr
  have : ¬ w.heap.size = br := sza
  have : ¬ br = w.heap.size := sza
  have hn := now_c (hR.alloc (.cells #[.pointer none] 30))
  generalize hkd : (tokAt toks en pos).kind = kd at *
  have K3' := K3.out
  clear K3
  go_enter Tryz.func233, Tryz.ntmps233
  go_wp2_with fail
  refine (hn).mono ?_
  rintro e w1 ⟨rfl, hk1⟩
  have z1 := hk1.size
  try simp at z1
  have lc1_0 := fun o => hk1.cell (w.heap.size) o sza sza
  have lf1_0 := fun o => hk1.frozen (w.heap.size) o sza sza
  have ll1_0 : w.heap.size < w1.heap.size := sza
  try simp at lc1_0
  try simp at lf1_0
  have lb1_0 := hk1.block (w.heap.size) sza sza
  have hr1 : Rdr toks en br lim pos dep w1 := rda
  have hn1 := now_c hr1
  rw [hkd] at hn1
  go_wp2_with fail
  refine (hn1).mono ?_
  rintro e w2 ⟨rfl, hk2⟩
  have z2 := hk2.size
  try simp at z2
  have lc2_0 := fun o => hk2.cell (w.heap.size) o sza sza
  have lf2_0 := fun o => hk2.frozen (w.heap.size) o sza sza
  have ll2_0 : w.heap.size < w2.heap.size := sza
  try simp at lc2_0
  try simp at lf2_0
  have lb2_0 := hk2.block (w.heap.size) sza sza
  have hr2 : Rdr toks en br lim pos dep w2 := rda
  go_wp2_with fail
  refine ((is_c (pos := pos) (dep := dep) (toks := toks) (en := en) (lim := lim) (rda) ⟨#[40]⟩).mono ?_)
  rw [mk_toList, show isTok _ (#[40] : Array UInt8).toList = false from cl]
  rintro e w3 ⟨rfl, hk3⟩
  have z3 := hk3.size
  try simp at z3
  have lc3_0 := fun o => hk3.cell (w.heap.size) o sza sza
  have lf3_0 := fun o => hk3.frozen (w.heap.size) o sza sza
  have ll3_0 : w.heap.size < w3.heap.size := sza
  try simp at lc3_0
  try simp at lf3_0
  have lb3_0 := hk3.block (w.heap.size) sza sza
  have hr3 : Rdr toks en br lim pos dep w3 := rda
  go_wp2_with fail
  refine ((is_c (pos := pos) (dep := dep) (toks := toks) (en := en) (lim := lim) (rda) ⟨#[110,105,108]⟩).mono ?_)
  rw [mk_toList, show isTok _ (#[110,105,108] : Array UInt8).toList = false from cn]
  rintro e w4 ⟨rfl, hk4⟩
  have z4 := hk4.size
  try simp at z4
  have lc4_0 := fun o => hk4.cell (w.heap.size) o sza sza
  have lf4_0 := fun o => hk4.frozen (w.heap.size) o sza sza
  have ll4_0 : w.heap.size < w4.heap.size := sza
  try simp at lc4_0
  try simp at lf4_0
  have lb4_0 := hk4.block (w.heap.size) sza sza
  have hr4 : Rdr toks en br lim pos dep w4 := rda
  go_wp2_with fail
  refine ((is_c (pos := pos) (dep := dep) (toks := toks) (en := en) (lim := lim) (rda) ⟨#[116,114,117,101]⟩).mono ?_)
  rw [mk_toList, show isTok _ (#[116,114,117,101] : Array UInt8).toList = false from ct]
  rintro e w5 ⟨rfl, hk5⟩
  have z5 := hk5.size
  try simp at z5
  have lc5_0 := fun o => hk5.cell (w.heap.size) o sza sza
  have lf5_0 := fun o => hk5.frozen (w.heap.size) o sza sza
  have ll5_0 : w.heap.size < w5.heap.size := sza
  try simp at lc5_0
  try simp at lf5_0
  have lb5_0 := hk5.block (w.heap.size) sza sza
  have hr5 : Rdr toks en br lim pos dep w5 := rda
  go_wp2_with fail
  refine ((is_c (pos := pos) (dep := dep) (toks := toks) (en := en) (lim := lim) (rda) ⟨#[102,97,108,115,101]⟩).mono ?_)
  rw [mk_toList, show isTok _ (#[102,97,108,115,101] : Array UInt8).toList = false from cf]
  rintro e w6 ⟨rfl, hk6⟩
  have z6 := hk6.size
  try simp at z6
  have lc6_0 := fun o => hk6.cell (w.heap.size) o sza sza
  have lf6_0 := fun o => hk6.frozen (w.heap.size) o sza sza
  have ll6_0 : w.heap.size < w6.heap.size := sza
  try simp at lc6_0
  try simp at lf6_0
  have lb6_0 := hk6.block (w.heap.size) sza sza
  have hr6 : Rdr toks en br lim pos dep w6 := rda
  go_wp2_with fail
  refine ((is_c (pos := pos) (dep := dep) (toks := toks) (en := en) (lim := lim) (rda) ⟨#[110,101,119]⟩).mono ?_)
  rw [mk_toList, show isTok _ (#[110,101,119] : Array UInt8).toList = false from cw]
  rintro e w7 ⟨rfl, hk7⟩
  have z7 := hk7.size
  try simp at z7
  have lc7_0 := fun o => hk7.cell (w.heap.size) o sza sza
  have lf7_0 := fun o => hk7.frozen (w.heap.size) o sza sza
  have ll7_0 : w.heap.size < w7.heap.size := sza
  try simp at lc7_0
  try simp at lf7_0
  have lb7_0 := hk7.block (w.heap.size) sza sza
  have hr7 : Rdr toks en br lim pos dep w7 := rda
  go_wp2_with fail
  refine ((is_c (pos := pos) (dep := dep) (toks := toks) (en := en) (lim := lim) (rda) ⟨#[114,101,97,100]⟩).mono ?_)
  rw [mk_toList, show isTok _ (#[114,101,97,100] : Array UInt8).toList = false from cr]
  rintro e w8 ⟨rfl, hk8⟩
  have z8 := hk8.size
  try simp at z8
  have lc8_0 := fun o => hk8.cell (w.heap.size) o sza sza
  have lf8_0 := fun o => hk8.frozen (w.heap.size) o sza sza
  have ll8_0 : w.heap.size < w8.heap.size := sza
  try simp at lc8_0
  try simp at lf8_0
  have lb8_0 := hk8.block (w.heap.size) sza sza
  have hr8 : Rdr toks en br lim pos dep w8 := rda
  go_wp2_with fail
  refine (fail_c (pos := pos) (dep := dep) (toks := toks) (en := en) (lim := lim) (rda)).mono ?_
  rintro e w9 ⟨rfl, hk9⟩
  have z9 := hk9.size
  try simp at z9
  go_wp2
  exact ⟨rfl, rfl, kpa⟩

end Go.Proofs.YtbplaekabeggkaaGreatDoor

namespace Go.Proofs.YtbplaekabeggkaaGreatDoor
open Go
section
variable {P : Program} {ops : Array Oper} {Q : Exit → Act → World → Prop} {md : Region.Mode} {S S' : World → Prop} {F : List Nat}
theorem wpAnyU_mono (hs : ∀ w, S' w → S w) : ∀ (fuel : Nat) {listed : Array Bool} {a : Act} {w : World}, wpAnyU P md ops Q S' F fuel listed a w → wpAnyU P md ops Q S F fuel listed a w
  | 0, _, _, _, h => h
  | fuel + 1, _, _, _, h => ⟨h.1, fun i hi => wpOp_mono (fun a' w' h' => ⟨fun hF => hs _ (h'.1 hF), wpAnyU_mono hs fuel h'.2⟩) (h.2 i hi)⟩
/-- more may be held from here on -/
theorem wpAnyU_S (S' : World → Prop) (hs : ∀ w, S' w → S w) {fuel : Nat} {listed : Array Bool} {a : Act} {w : World} (hw : S' w) (h : S' w → wpAnyU P md ops Q S' F fuel listed a w) : wpAnyU P md ops Q S F fuel listed a w :=
  wpAnyU_mono hs _ (h hw)
end
end Go.Proofs.YtbplaekabeggkaaGreatDoor
