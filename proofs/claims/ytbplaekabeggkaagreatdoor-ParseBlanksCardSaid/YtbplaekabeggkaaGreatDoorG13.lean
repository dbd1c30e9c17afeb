/- PROVED: the law ParseBlanks of layer 4 answers true for every string, as its given card says (the listed package variables as the program lays them); no other condition. The parser, the lexer and the writer of the awake test are walked whole. Text 13 of 16. -/
import Derived.Test.YtbplaekabeggkaaGreatDoorG11
import Derived.Test.YtbplaekabeggkaaGreatDoorG12
import Derived.Test.YtbplaekabeggkaaGreatDoorG05
set_option linter.unusedSimpArgs false
set_option linter.unusedVariables false
namespace Go.Proofs.YtbplaekabeggkaaGreatDoor
open Go.RowKit

theorem cnum : CNum := fun s w hs h => num_c s w hs (fun h' => absurd h h')

theorem good_num {t : Tok} (h : Good t) (hk : t.kind = 3) : (numParse t.text).2 = 0 := by
  have hn := h.next [] (.inl rfl)
  rw [List.append_nil] at hn
  obtain ⟨kd, tx, at_⟩ := t
  dsimp only at hk hn ⊢
  subst hk
  unfold nextL at hn
  split at hn
  · unfold wordL at hn
    dsimp only at hn
    simp only [Prod.mk.injEq, Tok.mk.injEq] at hn
    obtain ⟨⟨hk, -⟩, -⟩ := hn
    split at hk <;> cases hk
  · split at hn
    · unfold numberL at hn
      dsimp only at hn
      simp only [Prod.mk.injEq, Tok.mk.injEq] at hn
      obtain ⟨⟨-, hx, -⟩, he⟩ := hn
      split at he
      · cases he
      · rw [hx] at he; exact he
    · unfold signL at hn
      split at hn
      · simp only [Prod.mk.injEq, Tok.mk.injEq] at hn
        obtain ⟨⟨hk, -⟩, -⟩ := hn
        cases hk
      · simp at hn

theorem sum_ge {l : List Tok} {t : Tok} (h : t ∈ l) : t.text.length ≤ (l.map fun t => t.text.length).sum := by
  induction l with
  | nil => cases h
  | cons x l ih =>
    simp only [List.map_cons, List.sum_cons]
    rcases List.mem_cons.1 h with rfl | h
    · omega
    · have := ih h; omega

/-- a reader over scanned tokens -/
theorem rdr_new {w : World} {base : Nat} {v : Value} {toks : List Tok} {s : List UInt8} (hO : w.ownsRow base 35 3 v toks.length (tokCells toks)) (h0 : 0 < w.heap.size) (p : Nat) (hs : scan s = some (.ok toks p)) :
    Rdr toks s.length w.heap.size (w.heap.size + 1) 0 0 (w.alloc (.cells #[v, .int .i64 0, .int .i64 s.length, .int .i64 0] 75)) := by
  obtain ⟨-, h4, hg, -, hsum, hlen⟩ := scan_spec hs
  refine ⟨by omega, by simp, by omega, by omega, by omega, ?_, ?_, ?_⟩
  · intro i t ht
    have := sum_ge (List.mem_of_getElem? ht)
    omega
  · intro i t ht hk
    exact good_num (hg t (List.mem_of_getElem? ht)).1 hk
  · rcases id hO.2 with ⟨rfl, hn⟩ | ⟨g, cap, cur, rfl, hb, hgg, rest⟩
    · have hnil : toks = [] := List.eq_nil_of_length_eq_zero hn
      subst hnil
      exact ⟨0, 0, none, hA_new, by simp, by omega, by omega, by simp⟩
    · have hgl : g < w.heap.size := (Array.getElem?_eq_some_iff.1 hgg).1
      refine ⟨g, cap, some ⟨g, 0, none⟩, hA_new, fun _ => rfl, by omega, by omega, fun i t ht => ?_⟩
      obtain ⟨c0, c1, c2⟩ := tokCells_get toks i t ht
      have hc := hO.cells (g := g) rfl
      have hadd : ∀ j, (⟨g, 0, none⟩ : Addr).add j = ⟨g, j, none⟩ := fun j => by unfold Addr.add; split <;> simp_all
      have hw : ∀ o, (w.alloc (.cells #[.slice (some ⟨g, 0, none⟩) toks.length cap, .int .i64 0, .int .i64 s.length, .int .i64 0] 75)).cell? ⟨g, o, none⟩ = w.cell? ⟨g, o, none⟩ := fun o => World.cell?_of_block (a := ⟨g, o, none⟩) (hA_old hgl)
      refine ⟨?_, ?_, ?_⟩
      · rw [hw, ← hadd]; exact hc _ _ c0
      · rw [hw, ← hadd]; exact hc _ _ c1
      · rw [hw, ← hadd]; exact hc _ _ c2

def PostParse (w : World) (r : Res T) (e : Ending) (w' : World) : Prop :=
  match r with
  | .ok t _ => ∃ b, e = .returned (.tuple #[.agg #[ptrV b], .int .i64 0, .int .i64 0]) ∧ IsT w' w.heap.size w'.heap.size b t ∧ Kp w.heap.size [] w w'
  | .stop a er => e = .returned (.tuple #[nilN, .int .i64 a, .int .i64 er]) ∧ Kp w.heap.size [] w w'

theorem scan_err {s : List UInt8} {a e : Int} (h : scan s = some (.stop a e)) : e ≠ 0 := by
  unfold scan at h
  split at h
  · cases h; decide
  cases hS : skipL (s.length + 1) s with
  | none => rw [hS] at h; cases h
  | some n =>
    rw [hS] at h
    dsimp only at h
    have : ∀ (k n : Nat) (acc : List Tok), scanL k s n acc = some (.stop a e) → e ≠ 0 := by
      intro k
      induction k with
      | zero => intro n acc h; simp [scanL] at h
      | succ k ih =>
        intro n acc h
        rw [scanL] at h
        split at h
        · split at h
          · cases hS : skipL (s.length + 1) (s.drop (n + (nextL (s.drop n)).1.text.length)) with
            | none => rw [hS] at h; cases h
            | some m => rw [hS] at h; exact ih _ _ h
          · rename_i hne; cases h; exact hne
        · cases h
    exact this _ _ _ h

set_option maxRecDepth 100000 in
set_option maxHeartbeats 4000000 in
theorem parse_c (s : List UInt8) (w : World) (hs : s.length ≤ 10000) (hv : Vars w) (k : Nat) (r : Res T) (hq : parseL k s = some r) :
    Calls Tryz.prog 11 #[.string (B s)] w (PostParse w r) := by
  have hlv := hv.lt
  have hVA : Vars (w.alloc (.cells #[.pointer none] 30)) := hv.kp (n := w.heap.size) (S := []) (kpa) hlv (by simp)
  unfold parseL at hq
  cases hS : scan s with
  | none => rw [hS] at hq; cases hq
  | some x =>
  rw [hS] at hq
  have hsc := scan_c s (w.alloc (.cells #[.pointer none] 30)) hs hVA x hS
  cases x with
  | stop a er =>
    cases hq
    have hne := scan_err hS
    have heb : (er != 0) = true := by simpa using hne
    clear hS hne hv hVA
    go_enter Tryz.func11, Tryz.ntmps11
    go_wp2_with fail
    refine hsc.mono ?_
    rintro e w1 ⟨rfl, hk1⟩
    have z1 := hk1.size
    simp at z1
    have R1 : Loc w1 w.heap.size (.pointer none) 30 := loca
    have rc := R1.cell
    have rf := R1.frozen
    have rl := R1.lt
    go_wp2
    refine bodyPost_ret (v := .tuple #[nilN, .int .i64 a, .int .i64 er]) (by simp [results, Tryz.results11, go_sem, *]) rfl ?_
    exact ⟨rfl, kpa⟩
  | ok toks p =>
    dsimp only at hq
    cases hP : pProg k toks s.length [] 0 with
    | none => rw [hP] at hq; cases hq
    | some y =>
    rw [hP] at hq
    have hnew := fun (w1 : World) (base : Nat) (v : Value) (hO : w1.ownsRow base 35 3 v toks.length (tokCells toks)) h0 => rdr_new hO h0 p hS
    have hpr := fun (w1 : World) (br lim : Nat) (h : Rdr toks s.length br lim 0 0 w1) => prog_c cnum h y hP
    clear hS hP hv hVA
    go_enter Tryz.func11, Tryz.ntmps11
    go_wp2_with fail
    refine hsc.mono ?_
    rintro e w1 ⟨v, rfl, hO, hk1⟩
    have z1 := hk1.size
    simp at z1
    have R1 : Loc w1 w.heap.size (.pointer none) 30 := loca
    have hD := hnew w1 _ v hO (by omega)
    have hpp := hpr _ _ _ hD
    obtain ⟨va, vn, vc, rfl⟩ : ∃ a n c, v = .slice a n c := by
      rcases hO.2 with ⟨rfl, -⟩ | ⟨g, cap, cur, rfl, -⟩
      · exact ⟨_, _, _, rfl⟩
      · exact ⟨_, _, _, rfl⟩
    clear hnew hpr hO hsc
    have K1 : Kp w.heap.size [] w w1 := kpa
    clear hk1
    go_wp2_with fail
    refine hpp.mono ?_
    cases y with
    | stop a er =>
      cases hq
      rintro e w2 ⟨rfl, hk2⟩
      have z2 := hk2.size
      simp at z2
      have R2 := (R1.alloc (.cells #[.slice va vn vc, .int .i64 0, .int .i64 s.length, .int .i64 0] 75)).kp hk2 (by simp; omega) (by simp; omega)
      have K2 : Kp w.heap.size [] w w2 := (K1.alloc (by omega) _).trans (hk2.cut (by simp; omega) (by simp; omega))
      clear hk2 K1 R1 hD hpp
      have rc := R2.cell
      have rf := R2.frozen
      have rl := R2.lt
      have A1 : Loc ((w2.alloc (.cells #[.pointer none] 30)).alloc (.cells #[.int .i64 a, .int .i64 er] 77)) w.heap.size (.pointer none) 30 := (R2.alloc _).alloc _
      have A2 : Loc ((w2.alloc (.cells #[.pointer none] 30)).alloc (.cells #[.int .i64 a, .int .i64 er] 77)) w2.heap.size (.pointer none) 30 := (Loc.new' _ _ _ rfl).alloc _
      have A3 : Blk ((w2.alloc (.cells #[.pointer none] 30)).alloc (.cells #[.int .i64 a, .int .i64 er] 77)) (w2.heap.size + 1) #[.int .i64 a, .int .i64 er] 77 := Blk.new' _ _ _ (by simp)
      have A4 : Kp w.heap.size [] w ((w2.alloc (.cells #[.pointer none] 30)).alloc (.cells #[.int .i64 a, .int .i64 er] 77)) := kpa
      have A9 := A3.lt
      have A10 := A2.cell
      have A11 := A3.cell 0
      have A12 := A3.cell 1
      simp only [List.getElem?_toArray, List.getElem?_cons_zero, List.getElem?_cons_succ] at A11 A12
      have A5 := A1.cell
      have A6 := A1.frozen
      have A7 := A1.lt
      clear K2 R2
      go_wp2_with fail
      generalize (w2.alloc (.cells #[.pointer none] 30)).alloc (.cells #[.int .i64 a, .int .i64 er] 77) = W at *
      refine wp_region_U (S := (fun V => V.cell? ⟨w2.heap.size, 0, none⟩ = some (.pointer none) ∧ V.cell? ⟨w2.heap.size + 1, 0, none⟩ = some (.int .i64 a) ∧ V.cell? ⟨w2.heap.size + 1, 1, none⟩ = some (.int .i64 er))) (F := []) (by kernel_rfl) (by (first | (simp; done) | (simp [World.cell?_setCell_other, World.cell?_alloc_lt, *]; done))) (fun hHeld => ?_)
      refine tkU 0 (v := ?_) rfl (by kernel_rfl) (fun _ _ _ h => h) (Or.inl ⟨by rfl, ?_⟩) (by assumption) ?_
      rotate_left
      · intro w hSw; (try dsimp only at hSw); go_simp; try with_reducible rfl
      try simp only [Act.put, pz]
      refine tkU 1 (v := ?_) rfl (by kernel_rfl) (fun _ _ _ h => h) (Or.inl ⟨by rfl, ?_⟩) (by assumption) ?_
      rotate_left
      · intro w hSw; (try dsimp only at hSw); go_simp; try with_reducible rfl
      try simp only [Act.put, pz]
      refine tkU 2 (v := ?_) rfl (by kernel_rfl) (fun _ _ _ h => h) (Or.inl ⟨by rfl, ?_⟩) (by assumption) ?_
      rotate_left
      · intro w hSw; (try dsimp only at hSw); go_simp; try with_reducible rfl
      try simp only [Act.put, pz]
      refine tkU 3 (v := ?_) rfl (by kernel_rfl) (fun _ _ _ h => h) (Or.inl ⟨by rfl, ?_⟩) (by assumption) ?_
      rotate_left
      · intro w hSw; (try dsimp only at hSw); go_simp; try with_reducible rfl
      try simp only [Act.put, pz]
      refine tkU 4 (v := ?_) rfl (by kernel_rfl) (fun _ _ _ h => h) (Or.inl ⟨by rfl, ?_⟩) (by assumption) ?_
      rotate_left
      · intro w hSw; (try dsimp only at hSw); go_simp; try with_reducible rfl
      try simp only [Act.put, pz]
      refine wpAnyU_one (i := 5) (by kernel_rfl) rfl rfl (fun K1 hK => ?_)
      go_simp
      try dsimp only
      try simp only [sz3]
      refine hK.out _ _ ?_ ?_
      · intro _; exact ⟨(Loc.other (Loc.drew A2) (c := w.heap.size) 0 _ (by omega)).cell, (Blk.other (Blk.drew A3) (c := w.heap.size) 0 _ (by omega)).cell 0, (Blk.other (Blk.drew A3) (c := w.heap.size) 0 _ (by omega)).cell 1⟩
      clear hK K1
      try simp only [Act.put, pz]
      refine wpAnyU_one (i := 6) (by kernel_rfl) rfl rfl (fun K1 hK => ?_)
      go_simp
      try dsimp only
      try simp only [sz3]
      refine hK.out _ _ ?_ ?_
      · intro _; exact ⟨(Loc.other (Loc.drew A2) (c := w.heap.size) 0 _ (by omega)).cell, (Blk.other (Blk.drew A3) (c := w.heap.size) 0 _ (by omega)).cell 0, (Blk.other (Blk.drew A3) (c := w.heap.size) 0 _ (by omega)).cell 1⟩
      clear hK K1
      try simp only [Act.put, pz]
      refine wpAnyU_one (i := 7) (by kernel_rfl) rfl rfl (fun K1 hK => ?_)
      go_simp
      try dsimp only
      try simp only [sz3]
      refine hK.out _ _ ?_ ?_
      · intro _; exact ⟨(Loc.other (Loc.drew A2) (c := w.heap.size) 0 _ (by omega)).cell, (Blk.other (Blk.drew A3) (c := w.heap.size) 0 _ (by omega)).cell 0, (Blk.other (Blk.drew A3) (c := w.heap.size) 0 _ (by omega)).cell 1⟩
      clear hK K1
      try simp only [Act.put, pz]
      refine wpAnyU_done (by kernel_rfl) ?_ _
      have R := Loc.set (Loc.drew A1) (.pointer none)
      have Rc := R.cell
      have Rf := R.frozen
      go_wp2
      refine bodyPost_ret (v := .tuple #[nilN, .int .i64 a, .int .i64 er]) (by simp [results, Tryz.results11, go_sem, *]) rfl ?_
      exact ⟨rfl, kpa⟩
    | ok ts p2 =>
      cases hq
      rintro e w2 ⟨b, rfl, hT, hk2⟩
      have z2 := hk2.size
      simp at z2
      have R2 := (R1.alloc (.cells #[.slice va vn vc, .int .i64 0, .int .i64 s.length, .int .i64 0] 75)).kp hk2 (by simp; omega) (by simp; omega)
      have K2 : Kp w.heap.size [] w w2 := (K1.alloc (by omega) _).trans (hk2.cut (by simp; omega) (by simp; omega))
      clear hk2 K1 R1 hD hpp
      have rc := R2.cell
      have rf := R2.frozen
      have rl := R2.lt
      have A1 : Loc ((w2.alloc (.cells #[ptrV b] 30)).alloc (.cells #[.int .i64 0, .int .i64 0] 77)) w.heap.size (.pointer none) 30 := (R2.alloc _).alloc _
      have A2 : Loc ((w2.alloc (.cells #[ptrV b] 30)).alloc (.cells #[.int .i64 0, .int .i64 0] 77)) w2.heap.size (ptrV b) 30 := (Loc.new' _ _ _ rfl).alloc _
      have A3 : Blk ((w2.alloc (.cells #[ptrV b] 30)).alloc (.cells #[.int .i64 0, .int .i64 0] 77)) (w2.heap.size + 1) #[.int .i64 0, .int .i64 0] 77 := Blk.new' _ _ _ (by simp)
      have A4 : Kp w.heap.size [] w ((w2.alloc (.cells #[ptrV b] 30)).alloc (.cells #[.int .i64 0, .int .i64 0] 77)) := kpa
      have A8 : IsT ((w2.alloc (.cells #[ptrV b] 30)).alloc (.cells #[.int .i64 0, .int .i64 0] 77)) (w.heap.size + 1) w2.heap.size b (.mk 1 [] [] 0 0 ts) := IsT.frame (by simp; omega) (Nat.le_refl _) (fun k hk hk' => by rw [hA_old (by simp; omega), hA_old hk']) _ _ hT
      have A9 := A3.lt
      have A10 := A2.cell
      have A11 := A3.cell 0
      have A12 := A3.cell 1
      simp only [List.getElem?_toArray, List.getElem?_cons_zero, List.getElem?_cons_succ] at A11 A12
      have A5 := A1.cell
      have A6 := A1.frozen
      have A7 := A1.lt
      clear K2 R2
      go_wp2_with fail
      generalize (w2.alloc (.cells #[ptrV b] 30)).alloc (.cells #[.int .i64 0, .int .i64 0] 77) = W at *
      refine wp_region_U (S := (fun V => V.cell? ⟨w2.heap.size, 0, none⟩ = some (ptrV b) ∧ V.cell? ⟨w2.heap.size + 1, 0, none⟩ = some (.int .i64 0) ∧ V.cell? ⟨w2.heap.size + 1, 1, none⟩ = some (.int .i64 0))) (F := []) (by kernel_rfl) (by (first | (simp; done) | (simp [World.cell?_setCell_other, World.cell?_alloc_lt, *]; done))) (fun hHeld => ?_)
      refine tkU 0 (v := ?_) rfl (by kernel_rfl) (fun _ _ _ h => h) (Or.inl ⟨by rfl, ?_⟩) (by assumption) ?_
      rotate_left
      · intro w hSw; (try dsimp only at hSw); go_simp; try with_reducible rfl
      try simp only [Act.put, pz]
      refine tkU 1 (v := ?_) rfl (by kernel_rfl) (fun _ _ _ h => h) (Or.inl ⟨by rfl, ?_⟩) (by assumption) ?_
      rotate_left
      · intro w hSw; (try dsimp only at hSw); go_simp; try with_reducible rfl
      try simp only [Act.put, pz]
      refine tkU 2 (v := ?_) rfl (by kernel_rfl) (fun _ _ _ h => h) (Or.inl ⟨by rfl, ?_⟩) (by assumption) ?_
      rotate_left
      · intro w hSw; (try dsimp only at hSw); go_simp; try with_reducible rfl
      try simp only [Act.put, pz]
      refine tkU 3 (v := ?_) rfl (by kernel_rfl) (fun _ _ _ h => h) (Or.inl ⟨by rfl, ?_⟩) (by assumption) ?_
      rotate_left
      · intro w hSw; (try dsimp only at hSw); go_simp; try with_reducible rfl
      try simp only [Act.put, pz]
      refine tkU 4 (v := ?_) rfl (by kernel_rfl) (fun _ _ _ h => h) (Or.inl ⟨by rfl, ?_⟩) (by assumption) ?_
      rotate_left
      · intro w hSw; (try dsimp only at hSw); go_simp; try with_reducible rfl
      try simp only [Act.put, pz]
      refine wpAnyU_one (i := 5) (by kernel_rfl) rfl rfl (fun K1 hK => ?_)
      go_simp
      try dsimp only
      try simp only [sz3]
      refine hK.out _ _ ?_ ?_
      · intro _; exact ⟨(Loc.other (Loc.drew A2) (c := w.heap.size) 0 _ (by omega)).cell, (Blk.other (Blk.drew A3) (c := w.heap.size) 0 _ (by omega)).cell 0, (Blk.other (Blk.drew A3) (c := w.heap.size) 0 _ (by omega)).cell 1⟩
      clear hK K1
      try simp only [Act.put, pz]
      refine wpAnyU_one (i := 6) (by kernel_rfl) rfl rfl (fun K1 hK => ?_)
      go_simp
      try dsimp only
      try simp only [sz3]
      refine hK.out _ _ ?_ ?_
      · intro _; exact ⟨(Loc.other (Loc.drew A2) (c := w.heap.size) 0 _ (by omega)).cell, (Blk.other (Blk.drew A3) (c := w.heap.size) 0 _ (by omega)).cell 0, (Blk.other (Blk.drew A3) (c := w.heap.size) 0 _ (by omega)).cell 1⟩
      clear hK K1
      try simp only [Act.put, pz]
      refine wpAnyU_one (i := 7) (by kernel_rfl) rfl rfl (fun K1 hK => ?_)
      go_simp
      try dsimp only
      try simp only [sz3]
      refine hK.out _ _ ?_ ?_
      · intro _; exact ⟨(Loc.other (Loc.drew A2) (c := w.heap.size) 0 _ (by omega)).cell, (Blk.other (Blk.drew A3) (c := w.heap.size) 0 _ (by omega)).cell 0, (Blk.other (Blk.drew A3) (c := w.heap.size) 0 _ (by omega)).cell 1⟩
      clear hK K1
      try simp only [Act.put, pz]
      refine wpAnyU_done (by kernel_rfl) ?_ _
      have R := Loc.set (Loc.drew A1) (ptrV b)
      have Rc := R.cell
      have Rf := R.frozen
      go_wp2
      refine bodyPost_ret (v := .tuple #[.agg #[ptrV b], .int .i64 0, .int .i64 0]) (by simp [results, Tryz.results11, go_sem, *]) rfl ?_
      exact ⟨b, rfl, IsT.frame (by omega) (by simp; omega) (fun k hk hk' => by rw [hD, hS_ne (by omega)]) _ _ A8, kpa⟩
end Go.Proofs.YtbplaekabeggkaaGreatDoor

namespace Go.Proofs.YtbplaekabeggkaaGreatDoor
open Go.RowKit

theorem Tryz.info9 : (Tryz.prog.info? 9).map (fun i => (i.zero, i.size, i.bytes)) = some (some (.string ⟨#[]⟩), 1, 16) := by kernel_rfl
theorem Tryz.under44 : Tryz.prog.underlying 44 = some (.slice 9) := by kernel_rfl

@[reducible] def strV (xs : List (List UInt8)) : List Value := xs.map fun x => .string (B x)

/-- 'append(w, x)' to a row of strings -/
theorem app_str {w : World} {o : Oper} {a : Act} {K : Act → World → Prop} {Q : Exit → Act → World → Prop} (s x : Nat)
    (ho : o.op = .call { callee := .builtin .append, args := #[.tmp s, .tmp x], argTypes := #[44, 44] })
    (base : Nat) (v : Value) (xs : List (List UInt8)) (t : List UInt8) (hs : a.eval (.tmp s) = v) (hown : w.ownsRow base 9 1 v xs.length (strV xs)) (g0 : Nat) (hx : a.eval (.tmp x) = .slice (some ⟨g0, 0, none⟩) 1 1)
    (hnews : Loc w g0 (.string (B t)) 9) (hm : xs.length ≤ 100000) (hbase : base ≤ w.heap.size)
    (h : ∀ g cap w', w'.ownsRow base 9 1 (.slice (some ⟨g, 0, none⟩) (xs.length + 1) cap) (xs.length + 1) (strV (xs ++ [t])) → w.grownBy w' v.ownBlock → (v.ownBlock = some g ∨ g = w.heap.size) → g < w'.heap.size → K (a.put o.dst (.slice (some ⟨g, 0, none⟩) (xs.length + 1) cap)) w') : o.wp Tryz.prog a w K Q := by
  obtain ⟨i0, hi0, hz0, hz1, hz2⟩ := info_parts Tryz.info9
  refine wp_append_lies w _ _ 44 ho base 9 i0 _ 1 16 Tryz.under44 hi0 hz0 hz1 hz2 rfl (by omega) v xs.length _ hs hown ⟨g0, 0, none⟩ 1 1 [.string (B t)] hx rfl ?_ (by simp [Value.oneCell']) (by omega) (by unfold maxLen; omega) (by omega) hbase _ rfl (fun g cap w' h1 => h g cap w' (by
    have e : strV (xs ++ [t]) = strV xs ++ [.string (B t)] := by simp [strV]
    rw [e]; exact h1))
  intro j u hj
  have hadd : (⟨g0, 0, none⟩ : Addr).add j = ⟨g0, j, none⟩ := by unfold Addr.add; split <;> simp_all
  rw [hadd]
  match j, hj with
  | 0, hj => simp at hj; subst hj; exact hnews.cell
  | j + 1, hj => simp at hj

theorem own_str {w : World} {base : Nat} {v : Value} {xs : List (List UInt8)} (h : w.ownsRow base 9 1 v xs.length (strV xs)) :
    (v = .slice none 0 0 ∧ xs = []) ∨ ∃ g cap, v = .slice (some ⟨g, 0, none⟩) xs.length cap ∧ base ≤ g ∧ g < w.heap.size ∧ xs.length ≤ cap ∧ ∀ (j : Nat) x, (xs.map B)[j]? = some x → w.cell? ⟨g, 0 + j, none⟩ = some (.string x) := by
  rcases h.2 with ⟨rfl, h0⟩ | ⟨g, cap, cur, rfl, h1, h2, h3, h4, h5, h6⟩
  · exact .inl ⟨rfl, List.eq_nil_of_length_eq_zero h0⟩
  · refine .inr ⟨g, cap, rfl, h1, (Array.getElem?_eq_some_iff.1 h2).1, h3, fun j x hj => ?_⟩
    have hc := h.cells (g := g) rfl j (.string x) (by simp only [List.getElem?_map] at hj ⊢; cases hx : xs[j]? with
      | none => rw [hx] at hj; cases hj
      | some y => rw [hx] at hj; cases hj; rfl)
    have hadd : (⟨g, 0, none⟩ : Addr).add j = ⟨g, j, none⟩ := by unfold Addr.add; split <;> simp_all
    rw [hadd] at hc
    rw [Nat.zero_add]; exact hc

theorem join_lib : ∀ (xs : List (List UInt8)), Lib.join ((xs.map B).map (·.data.toList)) [32] = joinL xs
  | [] => by simp [Lib.join, joinL]
  | [x] => by simp [Lib.join, joinL, B]
  | x :: y :: r => by
    have := join_lib (y :: r)
    simp only [List.map_cons, Lib.join, joinL, B] at this ⊢
    rw [← this]
    simp [List.intercalate]

/-- strings.Join on an own row, blank between -/
theorem joinS_c (w : World) (base : Nat) (v : Value) (xs : List (List UInt8)) (h : w.ownsRow base 9 1 v xs.length (strV xs)) (hn : xs.length ≤ 100000) (hl : (joinL xs).length ≤ 10000000) :
    Calls Tryz.prog 38 #[v, .string ⟨#[32]⟩] w fun e w' => e = .returned (.string (B (joinL xs))) ∧ Kp w.heap.size [] w w' := by
  rcases own_str h with ⟨rfl, rfl⟩ | ⟨g, cap, rfl, h1, h2, h3, h4⟩
  · refine (Tryz.strings_Join_none none 0 ⟨#[32]⟩ w).mono ?_
    rintro e w' ⟨rfl, rfl⟩
    exact ⟨rfl, .refl _ _ _⟩
  · have e1 : xs.length = (xs.map B).length := by simp
    have e2 := join_lib xs
    have hc := Tryz.strings_Join g 0 cap (xs.map B) ⟨#[32]⟩ w h4 h2 (by simp; omega) (by simp; exact h3) (by
      show (Lib.join _ [32]).length ≤ _
      rw [e2]; omega)
    rw [← e1] at hc
    refine hc.mono ?_
    rintro e w' ⟨rfl, hb⟩
    refine ⟨?_, kp_below hb⟩
    show Ending.returned (.string ⟨(Lib.join _ [32]).toArray⟩) = _
    rw [e2]; rfl

set_option maxRecDepth 100000 in
set_option maxHeartbeats 1000000 in
theorem join_c (ts : List Tok) (base : Nat) (v : Value) (w : World) (hO : w.ownsRow base 35 3 v ts.length (tokCells ts)) (hn : ts.length ≤ 10000) (hl : (joinL (ts.map (·.text))).length ≤ 1000000) :
    Calls Tryz.prog 10 #[v] w fun e w' => e = .returned (.string (B (joinL (ts.map (·.text))))) ∧ Kp w.heap.size [] w w' := by
  have hown : ∀ k, v.ownBlock = some k → base ≤ k ∧ k < w.heap.size := fun k hk => hO.lt k hk
  obtain ⟨va, vn, vc, rfl, hvn⟩ : ∃ a n c, v = .slice a n c ∧ n = ts.length := by
    rcases hO.2 with ⟨rfl, h⟩ | ⟨g, cap, cur, rfl, -⟩
    · exact ⟨_, _, _, rfl, h.symm⟩
    · exact ⟨_, _, _, rfl, rfl⟩
  subst hvn
  have hcell : ∀ W, Kp w.heap.size [] w W → ∀ (i : Nat) t, ts[i]? = some t → ∃ g, va = some ⟨g, 0, none⟩ ∧ g < W.heap.size ∧ W.cell? ⟨g, i * 3, none⟩ = some (.int .i64 t.kind) ∧ W.cell? ⟨g, i * 3 + 1, none⟩ = some (.string (B t.text)) ∧ W.cell? ⟨g, i * 3 + 2, none⟩ = some (.int .i64 t.at_) := by
    intro W k i t ht
    have hO' := ownsRow_frame hO (Nat.le_refl _) (w' := W) (fun i hi => k.block i (hown i hi).2 (by simp))
    rcases hO'.2 with ⟨hv, h⟩ | ⟨g, cap, cur, hv, h1, h2, -⟩
    · have := (List.getElem?_eq_some_iff.1 ht).1; omega
    · cases hv
      have hc := hO'.cells (g := g) rfl
      have hadd : ∀ j, (⟨g, 0, none⟩ : Addr).add j = ⟨g, j, none⟩ := fun j => by unfold Addr.add; split <;> simp_all
      obtain ⟨a1, a2, a3⟩ := tokCells_get ts i t ht
      have c1 := hc _ _ a1
      have c2 := hc _ _ a2
      have c3 := hc _ _ a3
      rw [hadd] at c1 c2 c3
      exact ⟨g, rfl, (Array.getElem?_eq_some_iff.1 h2).1, c1, c2, c3⟩
  clear hown hO
  go_enter Tryz.func10, Tryz.ntmps10
  go_wp2_with fail
  go_loopg [3, 8] (ts.length + 1) (fun j v i wr => ∃ (n : Nat), i = .int .i64 n ∧ Go.Aside (j + n = ts.length + 1 ∧ n ≤ ts.length) ∧ wr.ownsRow w.heap.size 9 1 v ((ts.take n).map (·.text)).length (strV ((ts.take n).map (·.text))) ∧ Kp w.heap.size [] w wr)
  case atStart => exact ⟨0, rfl, ⟨by simp, by simp⟩, World.ownsRow_nil _ _ _ _, kpa⟩
  case round =>
    obtain ⟨n, rfl, A, hO, K⟩ := hrel
    obtain ⟨A, A2⟩ := A.out
    cases gk with
    | zero => omega
    | succ gk =>
    have Kz := K.size
    by_cases hlt : n < ts.length
    · have hlti : (n : Int) < (ts.length : Int) := by omega
      obtain ⟨g, rfl, gl, c1, c2, c3⟩ := hcell _ K n ts[n] (List.getElem?_eq_getElem hlt)
      have hown : ∀ k, u3.ownBlock = some k → w.heap.size ≤ k ∧ k < wr.heap.size := fun k hk => hO.lt k hk
      have hOk : ∀ W, Kp wr.heap.size [] wr W → W.ownsRow w.heap.size 9 1 u3 ((ts.take n).map (·.text)).length (strV ((ts.take n).map (·.text))) := fun W k => ownsRow_frame hO (Nat.le_refl _) (fun i hi => k.block i (hown i hi).2 (by simp))
      have htn : (ts.take n).length = n := by simp; omega
      go_wp2_with (first | (at_builtin; refine wpList_plain rfl (fun KK hKK => ?_); refine app_str 12 15 rfl w.heap.size u3 _ ts[n].text rfl (hOk _ (kpa)) (wr.heap.size + 1) rfl (loca) (by rw [List.length_map, htn]; omega) (by simp; omega) ?_; intro g5 cap w5 ho5 hg5 hat5 hlt5; have s5 := hg5.size; simp at s5; refine hKK _ _ ?_; clear hKK KK) | fail)
      have K5 : Kp w.heap.size [] w w5 := Kp.grown (kpa) (by simp; omega) hg5 (fun k e => .inl (hown k e).1)
      have hs : (ts.take n).map (·.text) ++ [ts[n].text] = (ts.take (n + 1)).map (·.text) := by rw [show ts.take (n + 1) = ts.take n ++ [ts[n]] from by rw [List.take_add_one, List.getElem?_eq_getElem hlt]; rfl, List.map_append]; rfl
      have hl2 : ((ts.take n).map (·.text)).length + 1 = ((ts.take (n + 1)).map (·.text)).length := by rw [← hs]; simp
      rw [hs, hl2] at ho5
      go_roundg gk
      case measure => omega
      case rel => exact ⟨n + 1, by push_cast; rfl, ⟨by omega, by omega⟩, by
        have e : n + 1 = ((ts.take (n + 1)).map (·.text)).length := by simp; omega
        exact (congrArg (fun q => w5.ownsRow w.heap.size 9 1 (.slice (some ⟨g5, 0, none⟩) q cap) ((ts.take (n + 1)).map (·.text)).length (strV ((ts.take (n + 1)).map (·.text)))) e).mpr ho5, K5⟩
    · have hlti : ¬ (n : Int) < (ts.length : Int) := by omega
      rw [List.take_of_length_le (by omega)] at hO
      have hj := joinS_c wr w.heap.size u3 _ hO (by rw [List.length_map]; omega) (by omega)
      go_wp2_with fail
      refine hj.mono ?_
      rintro e w2 ⟨rfl, hk2⟩
      have z2 := hk2.size
      go_wp2
      go_ret
      exact ⟨rfl, kpa⟩

end Go.Proofs.YtbplaekabeggkaaGreatDoor

/-
  OWN: where tokens stand plays no part in what the parser makes of them, but for places.
-/
namespace Go.Proofs.YtbplaekabeggkaaGreatDoor

mutual
/-- a tree without places -/
def bare : T → T
  | .mk op name typ n _ ks => .mk op name typ n 0 (bares ks)
def bares : List T → List T
  | [] => []
  | t :: ts => bare t :: bares ts
end

theorem bares_append : ∀ (a b : List T), bares (a ++ b) = bares a ++ bares b
  | [], b => rfl
  | t :: ts, b => by simp only [List.cons_append, bares, bares_append ts b]
theorem bares_length : ∀ (a : List T), (bares a).length = a.length
  | [] => rfl
  | t :: ts => by simp only [bares, List.length_cons, bares_length ts]
theorem bare_op (t : T) : (bare t).op = t.op := by cases t; simp only [bare, T.op]
theorem bare_name (t : T) : (bare t).name = t.name := by cases t; simp only [bare, T.name]
theorem bare_kids (t : T) : (bare t).kids = bares t.kids := by cases t; simp only [bare, T.kids]
theorem bares_head (ts : List T) : bare (ts.headD (.mk 0 [] [] 0 0 [])) = (bares ts).headD (.mk 0 [] [] 0 0 []) := by
  cases ts <;> simp only [bares, List.headD_nil, List.headD_cons, bare]

section
variable (toks toks' : List Tok) (en en' : Int)

structure Same : Prop where
  len : toks'.length = toks.length
  kind : ∀ i, (tokAt toks' en' i).kind = (tokAt toks en i).kind
  text : ∀ i, (tokAt toks' en' i).text = (tokAt toks en i).text

def RelO {α β : Type} (f : α → β) : Option (Res α) → Option (Res α) → Prop
  | none, none => True
  | some (.ok a p), some (.ok b q) => f b = f a ∧ q = p
  | some (.stop a e), some (.stop b e') => e' = e ∧ ∃ i, a = (tokAt toks en i).at_ ∧ b = (tokAt toks' en' i).at_
  | _, _ => False

variable {toks toks' en en'}
theorem RelO.parts {α β : Type} {f : α → β} : ∀ {x y : Option (Res α)}, RelO toks toks' en en' f x y →
    (x = none ∧ y = none) ∨ (∃ a b p, x = some (.ok a p) ∧ y = some (.ok b p) ∧ f b = f a) ∨ (∃ i e, x = some (.stop (tokAt toks en i).at_ e) ∧ y = some (.stop (tokAt toks' en' i).at_ e))
  | none, none, _ => .inl ⟨rfl, rfl⟩
  | some (.ok a p), some (.ok b q), ⟨h1, h2⟩ => .inr (.inl ⟨a, b, p, rfl, by rw [h2], h1⟩)
  | some (.stop a e), some (.stop b e'), ⟨h1, i, h2, h3⟩ => .inr (.inr ⟨i, e, by rw [h2], by rw [h1, h3]⟩)
  | none, some _, h => by simp [RelO] at h
  | some _, none, h => by simp [RelO] at h
  | some (.ok _ _), some (.stop _ _), h => by simp [RelO] at h
  | some (.stop _ _), some (.ok _ _), h => by simp [RelO] at h
theorem RelO.okI {α β : Type} {f : α → β} {a b : α} {p : Nat} (h : f b = f a) : RelO toks toks' en en' f (some (.ok a p)) (some (.ok b p)) := ⟨h, rfl⟩
theorem RelO.stopI {α β : Type} {f : α → β} (i : Nat) (e : Int) : RelO toks toks' en en' f (some (.stop (tokAt toks en i).at_ e)) (some (.stop (tokAt toks' en' i).at_ e)) := ⟨rfl, i, rfl, rfl⟩
theorem RelO.noneI {α β : Type} {f : α → β} : RelO toks toks' en en' f none none := trivial

variable (S : Same toks toks' en en')
include S
theorem Same.is (i : Nat) (s : List UInt8) : isTok (tokAt toks' en' i) s = isTok (tokAt toks en i) s := by simp only [isTok, S.kind, S.text]
theorem Same.lev (i : Nat) : levelTok (tokAt toks' en' i) = levelTok (tokAt toks en i) := by simp only [levelTok, S.kind, S.text]

theorem rel_type (pos : Nat) : RelO toks toks' en en' id (some (pType toks en pos)) (some (pType toks' en' pos)) := by
  unfold pType
  simp only [S.is, S.kind, S.text]
  (repeat' split) <;> first | exact RelO.okI rfl | exact RelO.stopI _ _
def partKey (x : Tok × List UInt8) : Int × List UInt8 × List UInt8 := (x.1.kind, x.1.text, x.2)
omit S in
theorem leaf_key {op : Int} {x y : Tok × List UInt8} (h : partKey y = partKey x) : bare (leafT op y) = bare (leafT op x) := by
  simp only [partKey, Prod.mk.injEq] at h
  simp only [leafT, bare, h.2.1, h.2.2]
theorem rel_part (pos : Nat) : RelO toks toks' en en' partKey (some (pPart toks en pos)) (some (pPart toks' en' pos)) := by
  unfold pPart
  simp only [S.kind]
  split
  · rcases (rel_type S (pos + 1)).parts with ⟨h1, h2⟩ | ⟨a, b, p, h1, h2, h3⟩ | ⟨i, e, h1, h2⟩
    · cases h1
    · rw [Option.some.inj h1, Option.some.inj h2]
      simp only [id] at h3
      exact RelO.okI (by simp only [partKey, S.kind, S.text, h3])
    · rw [Option.some.inj h1, Option.some.inj h2]
      exact RelO.stopI _ _
  · exact RelO.stopI _ _
theorem rel_fields : ∀ (k pos : Nat) (acc acc' : List T), bares acc' = bares acc → RelO toks toks' en en' bares (pFields k toks en pos acc) (pFields k toks' en' pos acc')
  | 0, _, _, _, _ => by simp only [pFields]; exact RelO.noneI
  | k + 1, pos, acc, acc', h => by
    rw [pFields, pFields]
    simp only [S.is]
    split
    · exact RelO.okI h
    rcases (rel_part S pos).parts with ⟨h1, h2⟩ | ⟨a, b, p, h1, h2, h3⟩ | ⟨i, e, h1, h2⟩
    · cases h1
    · rw [Option.some.inj h1, Option.some.inj h2]
      dsimp only
      split
      · exact rel_fields k _ _ _ (by rw [bares_append, bares_append, h]; simp only [bares, leaf_key h3])
      · exact RelO.stopI _ _
    · rw [Option.some.inj h1, Option.some.inj h2]
      exact RelO.stopI _ _
theorem rel_params : ∀ (k : Nat) (acc acc' : List T) (pos : Nat), bares acc' = bares acc → RelO toks toks' en en' bares (pParams k toks en acc pos) (pParams k toks' en' acc' pos)
  | 0, _, _, _, _ => by simp only [pParams]; exact RelO.noneI
  | k + 1, acc, acc', pos, h => by
    rw [pParams, pParams]
    simp only [S.is]
    split
    · exact RelO.okI h
    rcases (rel_part S pos).parts with ⟨h1, h2⟩ | ⟨a, b, p, h1, h2, h3⟩ | ⟨i, e, h1, h2⟩
    · cases h1
    · rw [Option.some.inj h1, Option.some.inj h2]
      have hh : bares (acc' ++ [leafT 5 b]) = bares (acc ++ [leafT 5 a]) := by rw [bares_append, bares_append, h]; simp only [bares, leaf_key h3]
      dsimp only
      split
      · exact rel_params k _ _ _ hh
      split
      · split
        · exact RelO.stopI _ _
        · exact rel_params k _ _ _ hh
      · exact RelO.stopI _ _
    · rw [Option.some.inj h1, Option.some.inj h2]
      exact RelO.stopI _ _
theorem rel_struct (k pos : Nat) : RelO toks toks' en en' bare (pStruct k toks en pos) (pStruct k toks' en' pos) := by
  unfold pStruct
  simp only [S.is, S.kind, S.text]
  split
  · split
    · split
      · rcases (rel_fields S k (pos + 3) [] [] rfl).parts with ⟨h1, h2⟩ | ⟨a, b, p, h1, h2, h3⟩ | ⟨i, e, h1, h2⟩ <;> rw [h1, h2]
        · exact RelO.noneI
        · exact RelO.okI (by simp only [bare, h3])
        · exact RelO.stopI _ _
      · exact RelO.stopI _ _
    · exact RelO.stopI _ _
  · exact RelO.stopI _ _
theorem rel_key (pos : Nat) : RelO toks toks' en en' bare (some (pKey toks en pos)) (some (pKey toks' en' pos)) := by
  unfold pKey
  simp only [S.is, S.kind, S.text]
  (repeat' split) <;> first | exact RelO.okI (by simp only [bare, bares, S.text]) | exact RelO.stopI _ _

structure RelK (k : Nat) : Prop where
  expr : ∀ dep least pos, RelO toks toks' en en' bare (pExpr k toks en dep least pos) (pExpr k toks' en' dep least pos)
  loop : ∀ dep least l l' pos, bare l' = bare l → RelO toks toks' en en' bare (pLoop k toks en dep least l pos) (pLoop k toks' en' dep least l' pos)
  unary : ∀ dep pos, RelO toks toks' en en' bare (pUnary k toks en dep pos) (pUnary k toks' en' dep pos)
  postfix_ : ∀ dep pos, RelO toks toks' en en' bare (pPostfix k toks en dep pos) (pPostfix k toks' en' dep pos)
  dots : ∀ l l' pos, bare l' = bare l → RelO toks toks' en en' bare (pDots k toks en l pos) (pDots k toks' en' l' pos)
  primary : ∀ dep pos, RelO toks toks' en en' bare (pPrimary k toks en dep pos) (pPrimary k toks' en' dep pos)
  named : ∀ dep pos, RelO toks toks' en en' bare (pNamed k toks en dep pos) (pNamed k toks' en' dep pos)
  args : ∀ dep acc acc' pos, bares acc' = bares acc → RelO toks toks' en en' bares (pArgs k toks en dep acc pos) (pArgs k toks' en' dep acc' pos)
  brackets : ∀ dep pos, RelO toks toks' en en' bare (pBrackets k toks en dep pos) (pBrackets k toks' en' dep pos)

theorem relK : ∀ k, @RelK toks toks' en en' k := by
  intro k
  induction k with
  | zero => constructor <;> (intros; simp only [pExpr, pLoop, pUnary, pPostfix, pDots, pPrimary, pNamed, pArgs, pBrackets]; exact RelO.noneI)
  | succ k ih =>
    constructor
    · intro dep least pos
      rw [pExpr, pExpr]
      rcases (ih.unary dep pos).parts with ⟨h1, h2⟩ | ⟨a, b, p, h1, h2, h3⟩ | ⟨i, e, h1, h2⟩ <;> rw [h1, h2]
      · exact RelO.noneI
      · exact ih.loop _ _ _ _ _ h3
      · exact RelO.stopI _ _
    · intro dep least l l' pos hl
      rw [pLoop, pLoop]
      simp only [S.lev]
      split
      · exact RelO.okI hl
      rcases (ih.expr dep ((levelTok (tokAt toks en pos)).1 + 1) (pos + 1)).parts with ⟨h1, h2⟩ | ⟨a, b, p, h1, h2, h3⟩ | ⟨i, e, h1, h2⟩ <;> rw [h1, h2]
      · exact RelO.noneI
      · exact ih.loop _ _ _ _ _ (by simp only [bare, bares, hl, h3])
      · exact RelO.stopI _ _
    · intro dep pos
      rw [pUnary, pUnary]
      simp only [S.is, S.text]
      split
      · split
        · exact RelO.stopI _ _
        rcases (ih.unary (dep + 1) (pos + 1)).parts with ⟨h1, h2⟩ | ⟨a, b, p, h1, h2, h3⟩ | ⟨i, e, h1, h2⟩ <;> rw [h1, h2]
        · exact RelO.noneI
        · exact RelO.okI (by simp only [bare, bares, h3])
        · exact RelO.stopI _ _
      · exact ih.postfix_ _ _
    · intro dep pos
      rw [pPostfix, pPostfix]
      rcases (ih.primary dep pos).parts with ⟨h1, h2⟩ | ⟨a, b, p, h1, h2, h3⟩ | ⟨i, e, h1, h2⟩ <;> rw [h1, h2]
      · exact RelO.noneI
      · exact ih.dots _ _ _ h3
      · exact RelO.stopI _ _
    · intro l l' pos hl
      rw [pDots, pDots]
      simp only [S.is, S.kind, S.text]
      split
      · split
        · exact ih.dots _ _ _ (by simp only [bare, bares, hl])
        · exact RelO.stopI _ _
      · exact RelO.okI hl
    · intro dep pos
      rw [pPrimary, pPrimary]
      simp only [S.is, S.kind, S.text]
      split
      · exact RelO.okI (by simp only [bare, bares])
      split
      · exact ih.named _ _
      split
      · exact ih.brackets _ _
      split
      · exact rel_key S pos
      · exact RelO.stopI _ _
    · intro dep pos
      rw [pNamed, pNamed]
      simp only [S.is, S.kind, S.text]
      split
      · split
        · exact RelO.stopI _ _
        rcases (ih.args (dep + 1) [] [] (pos + 2) rfl).parts with ⟨h1, h2⟩ | ⟨a, b, p, h1, h2, h3⟩ | ⟨i, e, h1, h2⟩ <;> rw [h1, h2]
        · exact RelO.noneI
        · exact RelO.okI (by simp only [bare, h3])
        · exact RelO.stopI _ _
      · exact RelO.okI (by simp only [bare, bares])
    · intro dep acc acc' pos ha
      rw [pArgs, pArgs]
      simp only [S.is]
      split
      · exact RelO.okI ha
      rcases (ih.expr dep 1 pos).parts with ⟨h1, h2⟩ | ⟨a, b, p, h1, h2, h3⟩ | ⟨i, e, h1, h2⟩ <;> rw [h1, h2]
      · exact RelO.noneI
      · have hh : bares (acc' ++ [b]) = bares (acc ++ [a]) := by rw [bares_append, bares_append, ha]; simp only [bares, h3]
        dsimp only
        split
        · exact ih.args _ _ _ _ hh
        split
        · split
          · exact RelO.stopI _ _
          · exact ih.args _ _ _ _ hh
        · exact RelO.stopI _ _
      · exact RelO.stopI _ _
    · intro dep pos
      rw [pBrackets, pBrackets]
      simp only [S.is]
      split
      · split
        · exact RelO.stopI _ _
        rcases (ih.expr (dep + 1) 1 (pos + 1)).parts with ⟨h1, h2⟩ | ⟨a, b, p, h1, h2, h3⟩ | ⟨i, e, h1, h2⟩ <;> rw [h1, h2]
        · exact RelO.noneI
        · dsimp only
          split
          · exact RelO.okI h3
          · exact RelO.stopI _ _
        · exact RelO.stopI _ _
      · exact RelO.stopI _ _

theorem rel_change (k dep pos : Nat) : RelO toks toks' en en' bare (pChange k toks en dep pos) (pChange k toks' en' dep pos) := by
  unfold pChange
  simp only [S.is, S.text]
  rcases ((relK S k).postfix_ dep pos).parts with ⟨h1, h2⟩ | ⟨a, b, p, h1, h2, h3⟩ | ⟨i, e, h1, h2⟩ <;> rw [h1, h2]
  · exact RelO.noneI
  · have ho : b.op = a.op := by rw [← bare_op b, h3, bare_op]
    have hn : b.name = a.name := by rw [← bare_name b, h3, bare_name]
    have hk : bares b.kids = bares a.kids := by rw [← bare_kids b, h3, bare_kids]
    dsimp only
    rw [ho]
    split
    · exact RelO.stopI _ _
    split
    · exact RelO.okI (by simp only [bare, bares, h3])
    split
    · split
      · rcases ((relK S k).expr dep 1 (p + 1)).parts with ⟨h1, h2⟩ | ⟨c, d, q, h1, h2, h4⟩ | ⟨i, e, h1, h2⟩ <;> rw [h1, h2]
        · exact RelO.noneI
        · exact RelO.okI (by simp only [bare, bares, h4, hn])
        · exact RelO.stopI _ _
      · exact RelO.stopI _ _
    split
    · split
      · rcases ((relK S k).expr dep 1 (p + 1)).parts with ⟨h1, h2⟩ | ⟨c, d, q, h1, h2, h4⟩ | ⟨i, e, h1, h2⟩ <;> rw [h1, h2]
        · exact RelO.noneI
        · exact RelO.okI (by simp only [bare, bares, h4, hn, bares_head, hk])
        · exact RelO.stopI _ _
      · exact RelO.stopI _ _
    · exact RelO.stopI _ _
  · exact RelO.stopI _ _
theorem rel_simple (k dep pos : Nat) : RelO toks toks' en en' bare (pSimple k toks en dep pos) (pSimple k toks' en' dep pos) := by
  unfold pSimple
  simp only [S.is, S.kind, S.text]
  split
  · rcases ((relK S k).brackets dep (pos + 1)).parts with ⟨h1, h2⟩ | ⟨c, d, q, h1, h2, h4⟩ | ⟨i, e, h1, h2⟩ <;> rw [h1, h2]
    · exact RelO.noneI
    · exact RelO.okI (by simp only [bare, bares, h4])
    · exact RelO.stopI _ _
  split
  · split
    · exact RelO.okI (by simp only [bare, bares])
    rcases ((relK S k).expr dep 1 (pos + 1)).parts with ⟨h1, h2⟩ | ⟨c, d, q, h1, h2, h4⟩ | ⟨i, e, h1, h2⟩ <;> rw [h1, h2]
    · exact RelO.noneI
    · exact RelO.okI (by simp only [bare, bares, h4])
    · exact RelO.stopI _ _
  split
  · rcases ((relK S k).expr dep 1 (pos + 2)).parts with ⟨h1, h2⟩ | ⟨c, d, q, h1, h2, h4⟩ | ⟨i, e, h1, h2⟩ <;> rw [h1, h2]
    · exact RelO.noneI
    · exact RelO.okI (by simp only [bare, bares, h4])
    · exact RelO.stopI _ _
  · exact rel_change S k dep pos

structure RelS (k : Nat) : Prop where
  stmt : ∀ dep pos, RelO toks toks' en en' bare (pStmt k toks en dep pos) (pStmt k toks' en' dep pos)
  branch : ∀ dep pos, RelO toks toks' en en' bare (pBranch k toks en dep pos) (pBranch k toks' en' dep pos)
  block : ∀ dep pos, RelO toks toks' en en' bare (pBlock k toks en dep pos) (pBlock k toks' en' dep pos)
  stmts : ∀ dep acc acc' pos, bares acc' = bares acc → RelO toks toks' en en' bares (pStmts k toks en dep acc pos) (pStmts k toks' en' dep acc' pos)

theorem relS : ∀ k, @RelS toks toks' en en' k := by
  intro k
  induction k with
  | zero => constructor <;> (intros; simp only [pStmt, pBranch, pBlock, pStmts]; exact RelO.noneI)
  | succ k ih =>
    constructor
    · intro dep pos
      rw [pStmt, pStmt]
      simp only [S.is]
      split
      · exact ih.branch _ _
      split
      · rcases ((relK S k).expr dep 1 (pos + 1)).parts with ⟨h1, h2⟩ | ⟨c, d, q, h1, h2, h4⟩ | ⟨i, e, h1, h2⟩ <;> rw [h1, h2]
        · exact RelO.noneI
        · dsimp only
          rcases (ih.block dep q).parts with ⟨h1, h2⟩ | ⟨c, d, q, h1, h2, h5⟩ | ⟨i, e, h1, h2⟩ <;> rw [h1, h2]
          · exact RelO.noneI
          · exact RelO.okI (by simp only [bare, bares, h4, h5])
          · exact RelO.stopI _ _
        · exact RelO.stopI _ _
      · rcases (rel_simple S k dep pos).parts with ⟨h1, h2⟩ | ⟨c, d, q, h1, h2, h4⟩ | ⟨i, e, h1, h2⟩ <;> rw [h1, h2]
        · exact RelO.noneI
        · dsimp only
          split
          · exact RelO.okI h4
          · exact RelO.stopI _ _
        · exact RelO.stopI _ _
    · intro dep pos
      rw [pBranch, pBranch]
      simp only [S.is]
      split
      · rcases ((relK S k).expr dep 1 (pos + 1)).parts with ⟨h1, h2⟩ | ⟨c, d, q, h1, h2, h4⟩ | ⟨i, e, h1, h2⟩ <;> rw [h1, h2]
        · exact RelO.noneI
        · dsimp only
          rcases (ih.block dep q).parts with ⟨h1, h2⟩ | ⟨c', d', q', h1, h2, h5⟩ | ⟨i, e, h1, h2⟩ <;> rw [h1, h2]
          · exact RelO.noneI
          · dsimp only
            split
            · have hm : RelO toks toks' en en' bare (if isTok (tokAt toks en (q' + 1)) kIf = true then pBranch k toks en dep (q' + 1) else pBlock k toks en dep (q' + 1)) (if isTok (tokAt toks en (q' + 1)) kIf = true then pBranch k toks' en' dep (q' + 1) else pBlock k toks' en' dep (q' + 1)) := by
                split
                · exact ih.branch _ _
                · exact ih.block _ _
              rcases hm.parts with ⟨h1, h2⟩ | ⟨c'', d'', q'', h1, h2, h6⟩ | ⟨i, e, h1, h2⟩ <;> rw [h1, h2]
              · exact RelO.noneI
              · exact RelO.okI (by simp only [bare, bares, h4, h5, h6])
              · exact RelO.stopI _ _
            · exact RelO.okI (by simp only [bare, bares, h4, h5])
          · exact RelO.stopI _ _
        · exact RelO.stopI _ _
      · exact RelO.stopI _ _
    · intro dep pos
      rw [pBlock, pBlock]
      simp only [S.is]
      split
      · split
        · exact RelO.stopI _ _
        rcases (ih.stmts (dep + 1) [] [] (pos + 1) rfl).parts with ⟨h1, h2⟩ | ⟨c, d, q, h1, h2, h4⟩ | ⟨i, e, h1, h2⟩ <;> rw [h1, h2]
        · exact RelO.noneI
        · exact RelO.okI (by simp only [bare, h4])
        · exact RelO.stopI _ _
      · exact RelO.stopI _ _
    · intro dep acc acc' pos ha
      rw [pStmts, pStmts]
      simp only [S.is]
      split
      · exact RelO.okI ha
      rcases (ih.stmt dep pos).parts with ⟨h1, h2⟩ | ⟨c, d, q, h1, h2, h4⟩ | ⟨i, e, h1, h2⟩ <;> rw [h1, h2]
      · exact RelO.noneI
      · exact ih.stmts _ _ _ _ (by rw [bares_append, bares_append, ha]; simp only [bares, h4])
      · exact RelO.stopI _ _

theorem rel_func (k pos : Nat) : RelO toks toks' en en' bare (pFunc k toks en pos) (pFunc k toks' en' pos) := by
  unfold pFunc
  simp only [S.is, S.kind, S.text]
  split
  · split
    · rcases (rel_params S k [] [] (pos + 2) rfl).parts with ⟨h1, h2⟩ | ⟨a, b, p, h1, h2, h3⟩ | ⟨i, e, h1, h2⟩ <;> rw [h1, h2]
      · exact RelO.noneI
      · dsimp only
        have hm : RelO toks toks' en en' id (some (if isTok (tokAt toks en (p + 1)) kOpen = true then Res.ok [] (p + 1) else pType toks en (p + 1))) (some (if isTok (tokAt toks en (p + 1)) kOpen = true then Res.ok [] (p + 1) else pType toks' en' (p + 1))) := by
          split
          · exact RelO.okI rfl
          · exact rel_type S _
        rcases hm.parts with ⟨h1, h2⟩ | ⟨c, d, q, h1, h2, h4⟩ | ⟨i, e, h1, h2⟩
        · cases h1
        · rw [Option.some.inj h1, Option.some.inj h2]
          simp only [id] at h4
          dsimp only
          rcases ((relS S k).block 0 q).parts with ⟨h1, h2⟩ | ⟨c', d', q', h1, h2, h5⟩ | ⟨i, e, h1, h2⟩ <;> rw [h1, h2]
          · exact RelO.noneI
          · exact RelO.okI (by simp only [bare, bares_append, bares, h3, h4, h5])
          · exact RelO.stopI _ _
        · rw [Option.some.inj h1, Option.some.inj h2]
          exact RelO.stopI _ _
      · exact RelO.stopI _ _
    · exact RelO.stopI _ _
  · exact RelO.stopI _ _
theorem rel_decl (k pos : Nat) : RelO toks toks' en en' bare (pDecl k toks en pos) (pDecl k toks' en' pos) := by
  unfold pDecl
  simp only [S.is]
  split
  · exact rel_struct S _ _
  split
  · exact rel_func S _ _
  split
  · rcases (rel_part S (pos + 1)).parts with ⟨h1, h2⟩ | ⟨a, b, p, h1, h2, h3⟩ | ⟨i, e, h1, h2⟩
    · cases h1
    · rw [Option.some.inj h1, Option.some.inj h2]
      dsimp only
      split
      · exact RelO.okI (leaf_key h3)
      · exact RelO.stopI _ _
    · rw [Option.some.inj h1, Option.some.inj h2]
      exact RelO.stopI _ _
  · exact RelO.stopI _ _
theorem rel_prog : ∀ (k : Nat) (acc acc' : List T) (pos : Nat), bares acc' = bares acc → RelO toks toks' en en' bares (pProg k toks en acc pos) (pProg k toks' en' acc' pos)
  | 0, _, _, _, _ => by simp only [pProg]; exact RelO.noneI
  | k + 1, acc, acc', pos, h => by
    rw [pProg, pProg]
    simp only [S.len]
    split
    · rcases (rel_decl S k pos).parts with ⟨h1, h2⟩ | ⟨a, b, p, h1, h2, h3⟩ | ⟨i, e, h1, h2⟩ <;> rw [h1, h2]
      · exact RelO.noneI
      · exact rel_prog k _ _ _ (by rw [bares_append, bares_append, h]; simp only [bares, h3])
      · exact RelO.stopI _ _
    · exact RelO.okI h
end

end Go.Proofs.YtbplaekabeggkaaGreatDoor

namespace Go.Proofs.YtbplaekabeggkaaGreatDoor

mutual
/-- law04.alike -/
def sameT : T → T → Bool
  | .mk op name typ n _ ks, u => (op == u.op) && (name == u.name) && (typ == u.typ) && (n == u.n) && sameTs ks u.kids
def sameTs : List T → List T → Bool
  | [], [] => true
  | t :: ts, u :: us => sameT t u && sameTs ts us
  | _, _ => false
end

mutual
theorem sameT_bare : ∀ (t u : T), sameT t u = true ↔ bare t = bare u
  | .mk op name typ n a ks, .mk op' name' typ' n' a' ks' => by
    have := sameTs_bare ks ks'
    simp only [sameT, T.op, T.name, T.typ, T.n, T.kids, Bool.and_eq_true, beq_iff_eq, bare, T.mk.injEq, this]
    constructor
    · rintro ⟨⟨⟨⟨h1, h2⟩, h3⟩, h4⟩, h5⟩; exact ⟨h1, h2, h3, h4, trivial, h5⟩
    · rintro ⟨h1, h2, h3, h4, -, h5⟩; exact ⟨⟨⟨⟨h1, h2⟩, h3⟩, h4⟩, h5⟩
theorem sameTs_bare : ∀ (ts us : List T), sameTs ts us = true ↔ bares ts = bares us
  | [], [] => by simp [sameTs]
  | t :: ts, u :: us => by
    have h1 := sameT_bare t u
    have h2 := sameTs_bare ts us
    simp only [sameTs, Bool.and_eq_true, bares, List.cons.injEq, h1, h2]
  | [], u :: us => by simp [sameTs, bares]
  | t :: ts, [] => by simp [sameTs, bares]
end

theorem sameTs_all : ∀ (ts us : List T), ts.length = us.length → (∀ i, i < ts.length → sameT (ts[i]?.getD zeroT) (us[i]?.getD zeroT) = true) → sameTs ts us = true
  | [], [], _, _ => rfl
  | t :: ts, u :: us, hl, h => by
    have h0 := h 0 (by simp)
    simp only [List.getElem?_cons_zero, Option.getD_some] at h0
    have h1 := sameTs_all ts us (by simpa using hl) (fun i hi => by have := h (i + 1) (by simp; omega); simpa using this)
    simp only [sameTs, h0, h1, Bool.and_self]
  | [], _ :: _, hl, _ => by simp at hl
  | _ :: _, [], hl, _ => by simp at hl
theorem sameTs_not : ∀ (ts us : List T) (i : Nat), i < ts.length → sameT (ts[i]?.getD zeroT) (us[i]?.getD zeroT) = false → ts.length = us.length → sameTs ts us = false
  | [], _, i, h, _, _ => by simp at h
  | _ :: _, [], _, _, _, hl => by simp at hl
  | t :: ts, u :: us, 0, _, h, _ => by
    simp only [List.getElem?_cons_zero, Option.getD_some] at h
    simp only [sameTs, h, Bool.false_and]
  | t :: ts, u :: us, i + 1, hi, h, hl => by
    simp only [List.getElem?_cons_succ] at h
    have := sameTs_not ts us i (by simpa using hi) h (by simpa using hl)
    simp only [sameTs, this, Bool.and_false]
theorem sameTs_len : ∀ (ts us : List T), ts.length ≠ us.length → sameTs ts us = false
  | [], [], h => by simp at h
  | t :: ts, u :: us, h => by
    have := sameTs_len ts us (by simpa using h)
    simp only [sameTs, this, Bool.and_false]
  | [], _ :: _, _ => by simp [sameTs]
  | _ :: _, [], _ => by simp [sameTs]

theorem sameT_eq (t u : T) : sameT t u = ((t.op == u.op) && (t.name == u.name) && (t.typ == u.typ) && (t.n == u.n) && sameTs t.kids u.kids) := by
  cases t; simp only [sameT, T.op, T.name, T.typ, T.n, T.kids]

theorem kid_size {t : T} {i : Nat} (h : i < t.kids.length) : SizeOf.sizeOf (t.kids[i]?.getD zeroT) < SizeOf.sizeOf t := by
  cases t with
  | mk op name typ n a ks =>
    simp only [T.kids] at h ⊢
    rw [List.getElem?_eq_getElem h, Option.getD_some]
    have := List.sizeOf_lt_of_mem (List.getElem_mem h)
    simp only [T.mk.sizeOf_spec]
    omega

end Go.Proofs.YtbplaekabeggkaaGreatDoor

namespace Go.Proofs.YtbplaekabeggkaaGreatDoor
open Go.RowKit

/-- what the writer's work leaves: all below lim; and every block that is neither a row of strings nor a writer -/
structure Wk (lim : Nat) (w w' : World) : Prop where
  os : w'.os = w.os
  tape : w'.tape = w.tape
  output : w'.output = w.output
  size : w.heap.size ≤ w'.heap.size
  low : ∀ k, k < lim → w'.heap[k]? = w.heap[k]?
  keep : ∀ k, k < w.heap.size → (∀ c f, w.heap[k]? ≠ some (.cells c 9 f)) → (∀ c f, w.heap[k]? ≠ some (.cells c 97 f)) → w'.heap[k]? = w.heap[k]?
namespace Wk
variable {lim : Nat} {w w' w'' : World}
theorem refl (lim : Nat) (w : World) : Wk lim w w := ⟨rfl, rfl, rfl, Nat.le_refl _, fun _ _ => rfl, fun _ _ _ _ => rfl⟩
theorem trans (h : Wk lim w w') (k : Wk lim w' w'') : Wk lim w w'' :=
  ⟨k.os.trans h.os, k.tape.trans h.tape, k.output.trans h.output, Nat.le_trans h.size k.size, fun i hi => (k.low i hi).trans (h.low i hi),
    fun i hi h9 h97 => by
      have e := h.keep i hi h9 h97
      rw [k.keep i (Nat.lt_of_lt_of_le hi h.size) (by rw [e]; exact h9) (by rw [e]; exact h97), e]⟩
theorem of_kp (h : Kp w.heap.size [] w w') (hl : lim ≤ w.heap.size) : Wk lim w w' := ⟨h.os, h.tape, h.output, h.size, fun i hi => h.block i (by omega) (by simp), fun i hi _ _ => h.block i hi (by simp)⟩
theorem alloc (h : Wk lim w w') (hl : lim ≤ w'.heap.size) (o : Obj) : Wk lim w (w'.alloc o) := h.trans (of_kp ((Kp.refl w'.heap.size [] w').alloc (Nat.le_refl _) o) hl)
theorem drew (h : Wk lim w w') : Wk lim w w'.drew := ⟨h.os, h.tape, h.output, h.size, h.low, h.keep⟩
theorem drewN (h : Wk lim w w') (q : Nat) : Wk lim w (w'.drewN q) := ⟨h.os, h.tape, h.output, h.size, h.low, h.keep⟩
theorem kp (h : Wk lim w w') : Kp lim [] w w' := ⟨h.os, h.tape, h.output, h.size, fun k hk _ => h.low k hk⟩
end Wk
theorem Loc.wk {lim : Nat} {w w' : World} {b : Nat} {v : Value} {t : TypeId} (h : Loc w b v t) (k : Wk lim w w') (h9 : t ≠ 9) (h97 : t ≠ 97) : Loc w' b v t :=
  ⟨by rw [k.keep b h.lt (fun c f => by rw [h.blk]; intro e; simp only [Option.some.injEq, Obj.cells.injEq] at e; exact h9 e.2.1) (fun c f => by rw [h.blk]; intro e; simp only [Option.some.injEq, Obj.cells.injEq] at e; exact h97 e.2.1)]; exact h.blk⟩
theorem Blk.wk {lim : Nat} {w w' : World} {b : Nat} {v : Array Value} {t : TypeId} (h : Blk w b v t) (k : Wk lim w w') (h9 : t ≠ 9) (h97 : t ≠ 97) : Blk w' b v t :=
  ⟨by rw [k.keep b h.lt (fun c f => by rw [h.blk]; intro e; simp only [Option.some.injEq, Obj.cells.injEq] at e; exact h9 e.2.1) (fun c f => by rw [h.blk]; intro e; simp only [Option.some.injEq, Obj.cells.injEq] at e; exact h97 e.2.1)]; exact h.blk⟩

theorem wk_blk {lim : Nat} {w w' : World} (k : Wk lim w w') {b : Nat} {c : Array Value} {t : TypeId} {f : Nat × Nat} (h : w.heap[b]? = some (.cells c t f)) (h9 : t ≠ 9) (h97 : t ≠ 97) : w'.heap[b]? = some (.cells c t f) := by
  rw [k.keep b (Array.getElem?_eq_some_iff.1 h).1 (fun c f => by rw [h]; intro e; simp only [Option.some.injEq, Obj.cells.injEq] at e; exact h9 e.2.1) (fun c f => by rw [h]; intro e; simp only [Option.some.injEq, Obj.cells.injEq] at e; exact h97 e.2.1)]; exact h

theorem ownsRow_wk {lim : Nat} {w w' : World} (k : Wk lim w w') {base size n : Nat} {v : Value} {xs : List Value} {e : TypeId} (h : w.ownsRow base e size v n xs) (h9 : e ≠ 9) (h97 : e ≠ 97) : w'.ownsRow base e size v n xs := by
  refine ⟨h.1, ?_⟩
  rcases h.2 with hn | ⟨g, cap, cur, rfl, hb', hg, rest⟩
  · exact .inl hn
  · exact .inr ⟨g, cap, cur, rfl, hb', wk_blk k hg h9 h97, rest⟩

mutual
theorem IsT.wk {lim : Nat} {w w' : World} (k : Wk lim w w') {lo hi : Nat} : ∀ (t : T) (b : Nat), IsT w lo hi b t → IsT w' lo hi b t
  | .mk op name typ n at_ kids, b, h => by
    simp only [IsT] at h ⊢
    obtain ⟨h1, h2, sv, bs, h3, h4, h5, h6⟩ := h
    exact ⟨h1, h2, sv, bs, wk_blk k h3 (by decide) (by decide), ownsRow_wk k h4 (by decide) (by decide), h5, IsL.wk k kids bs h6⟩
theorem IsL.wk {lim : Nat} {w w' : World} (k : Wk lim w w') {lo hi : Nat} : ∀ (ts : List T) (bs : List Nat), IsL w lo hi bs ts → IsL w' lo hi bs ts
  | [], [], _ => by simp [IsL]
  | t :: ts, b :: bs, h => by
    simp only [IsL] at h ⊢
    exact ⟨IsT.wk k t b h.1, IsL.wk k ts bs h.2⟩
  | [], _ :: _, h => by simp [IsL] at h
  | _ :: _, [], h => by simp [IsL] at h
end
theorem IsN.wk {lim : Nat} {w w' : World} {v : Value} {t : T} (h : IsN w v t) (k : Wk lim w w') : IsN w' v t := by
  rcases h with h | ⟨b, lo, hi, hv, hh, hT⟩
  · exact .inl h
  · exact .inr ⟨b, lo, hi, hv, Nat.le_trans hh k.size, IsT.wk k _ _ hT⟩

/-- a slice value that reads as a tree's kids, and stays so while the writer works -/
def DataV (w : World) (v : Value) (ts : List T) : Prop :=
  ∃ a cap, v = .slice a ts.length cap ∧ (ts = [] ∨ ∃ g cur f, a = some ⟨g, 0, none⟩ ∧ w.heap[g]? = some (.cells cur 30 f) ∧ ∀ (i : Nat) (t : T), ts[i]? = some t → ∃ u, cur[i]? = some (ptrV u) ∧ IsN w (.agg #[ptrV u]) t)
theorem DataV.wk {lim : Nat} {w w' : World} {v : Value} {ts : List T} (h : DataV w v ts) (k : Wk lim w w') : DataV w' v ts := by
  obtain ⟨a, cap, e, h⟩ := h
  refine ⟨a, cap, e, h.imp id ?_⟩
  rintro ⟨g, cur, f, e1, e2, e3⟩
  exact ⟨g, cur, f, e1, wk_blk k e2 (by decide) (by decide), fun i t ht => (e3 i t ht).imp fun u h => ⟨h.1, h.2.wk k⟩⟩
theorem DataV.get {w : World} {v : Value} {ts : List T} (h : DataV w v ts) {i : Nat} (hi : i < ts.length) : ∃ g u cap, v = .slice (some ⟨g, 0, none⟩) ts.length cap ∧ g < w.heap.size ∧ w.cell? ⟨g, i, none⟩ = some (ptrV u) ∧ IsN w (.agg #[ptrV u]) ts[i] := by
  obtain ⟨a, cap, e, h⟩ := h
  rcases h with rfl | ⟨g, cur, f, rfl, e2, e3⟩
  · simp at hi
  · obtain ⟨u, h1, h2⟩ := e3 i ts[i] (List.getElem?_eq_getElem hi)
    exact ⟨g, u, cap, e, (Array.getElem?_eq_some_iff.1 e2).1, by rw [cell_of_cells e2, h1], h2⟩

theorem IsT.dataV {w : World} {lo hi b : Nat} {t : T} (hh : hi ≤ w.heap.size) (h : IsT w lo hi b t) : ∃ sv, w.heap[b]? = some (.cells #[.int .i64 t.op, .string (B t.name), .string (B t.typ), .int .i64 t.n, .int .i64 t.at_, sv] 108 (0, 0)) ∧ DataV w sv t.kids := by
  obtain ⟨-, -, sv, bs, h3, h4, h5, h6⟩ := h.cells
  refine ⟨sv, h3, ?_⟩
  have hl := IsL.len _ _ h6
  rcases h4.2 with ⟨rfl, hn⟩ | ⟨g, cap, cur, rfl, hb, hg, hcap, hmax, hlen, htake⟩
  · have h0 : t.kids.length = 0 := by omega
    exact ⟨none, 0, by rw [h0], .inl (List.eq_nil_of_length_eq_zero h0)⟩
  · refine ⟨some ⟨g, 0, none⟩, cap, by rw [← hl], .inr ⟨g, cur, _, rfl, hg, fun i t' ht => ?_⟩⟩
    obtain ⟨u, hu, hT⟩ := IsL.get _ _ h6 i t' ht
    have hgl : g < w.heap.size := (Array.getElem?_eq_some_iff.1 hg).1
    refine ⟨u, ?_, .inr ⟨u, lo, hi, rfl, hh, hT⟩⟩
    have hc := h4.cells (g := g) rfl i (ptrV u) (by simp [hu])
    have hadd : (⟨g, 0, none⟩ : Addr).add i = ⟨g, 0 + i, none⟩ := by unfold Addr.add; split <;> simp_all
    rw [hadd, Nat.zero_add, cell_of_cells hg] at hc
    exact hc

def PostD (w : World) (t : T) (e : Ending) (w' : World) : Prop := ∃ a cap, e = .returned (.agg #[.int .i64 t.op, .string (B t.name), .string (B t.typ), .int .i64 t.n, .int .i64 t.at_, .slice a t.kids.length cap]) ∧ DataV w (.slice a t.kids.length cap) t.kids ∧ Kp w.heap.size [] w w'
theorem getD_c {w : World} {v : Value} {t : T} (h : IsN w v t) : Calls Tryz.prog 59 #[v] w (PostD w t) := by
  rcases h with ⟨rfl, rfl⟩ | ⟨b, lo, hi, rfl, hh, hT⟩
  · refine (get_n w).mono ?_
    rintro e w' ⟨rfl, hk⟩
    exact ⟨none, 0, rfl, ⟨none, 0, rfl, .inl rfl⟩, hk⟩
  · obtain ⟨sv, h1, h2⟩ := hT.dataV hh
    obtain ⟨a, cap, rfl, h3⟩ := h2
    refine (get_b _ _ _ _ _ _ ⟨h1⟩ ⟨_, _, _, rfl⟩).mono ?_
    rintro e w' ⟨rfl, hk⟩
    exact ⟨a, cap, rfl, ⟨a, cap, rfl, h3⟩, hk⟩

/-- the writer: its block bk, its row of strings (both made since lim) -/
structure Wr (w : World) (bk lim : Nat) (xs : List (List UInt8)) : Prop where
  ge : lim ≤ bk
  row : ∃ a n c, Loc w bk (.slice a n c) 97 ∧ w.ownsRow lim 9 1 (.slice a n c) xs.length (strV xs)
namespace Wr
variable {w w' : World} {bk lim : Nat} {xs : List (List UInt8)}
theorem lt (h : Wr w bk lim xs) : bk < w.heap.size := by obtain ⟨a, n, c, h1, -⟩ := h.row; exact h1.lt
theorem le (h : Wr w bk lim xs) : lim ≤ w.heap.size := Nat.le_of_lt (Nat.lt_of_le_of_lt h.ge h.lt)
theorem kp {n : Nat} (h : Wr w bk lim xs) (k : Kp n [] w w') (hn : w.heap.size ≤ n) : Wr w' bk lim xs := by
  obtain ⟨a, m, c, h1, h2⟩ := h.row
  exact ⟨h.ge, a, m, c, h1.kp k (by have := h1.lt; omega) (by simp), ownsRow_frame h2 (Nat.le_refl _) (fun g hg => k.block g (by have := (h2.lt g hg).2; omega) (by simp))⟩
theorem alloc (h : Wr w bk lim xs) (o : Obj) : Wr (w.alloc o) bk lim xs := h.kp ((Kp.refl w.heap.size [] w).alloc (Nat.le_refl _) o) (Nat.le_refl _)
theorem drew (h : Wr w bk lim xs) : Wr w.drew bk lim xs := h.kp ((Kp.refl w.heap.size [] w).drew) (Nat.le_refl _)
theorem drewN (h : Wr w bk lim xs) (q : Nat) : Wr (w.drewN q) bk lim xs := h.kp ((Kp.refl w.heap.size [] w).drewN q) (Nat.le_refl _)
end Wr

/-- 'append(w.list, list...)' -/
theorem app_strs {w : World} {o : Oper} {a : Act} {K : Act → World → Prop} {Q : Exit → Act → World → Prop} (s x : Nat)
    (ho : o.op = .call { callee := .builtin .append, args := #[.tmp s, .tmp x], argTypes := #[44, 44] })
    (base : Nat) (v : Value) (xs ys : List (List UInt8)) (hs : a.eval (.tmp s) = v) (hown : w.ownsRow base 9 1 v xs.length (strV xs)) (g0 : Nat) (hx : a.eval (.tmp x) = .slice (some ⟨g0, 0, none⟩) ys.length ys.length)
    (hnews : Blk w g0 (strV ys).toArray 9) (hm : xs.length ≤ 100000) (hm2 : ys.length ≤ 100) (hm3 : 1 ≤ ys.length) (hbase : base ≤ w.heap.size)
    (h : ∀ g cap w', w'.ownsRow base 9 1 (.slice (some ⟨g, 0, none⟩) (xs.length + ys.length) cap) (xs.length + ys.length) (strV (xs ++ ys)) → w.grownBy w' v.ownBlock → (v.ownBlock = some g ∨ g = w.heap.size) → g < w'.heap.size → K (a.put o.dst (.slice (some ⟨g, 0, none⟩) (xs.length + ys.length) cap)) w') : o.wp Tryz.prog a w K Q := by
  obtain ⟨i0, hi0, hz0, hz1, hz2⟩ := info_parts Tryz.info9
  refine wp_append_lies w _ _ 44 ho base 9 i0 _ 1 16 Tryz.under44 hi0 hz0 hz1 hz2 rfl (by omega) v xs.length _ hs hown ⟨g0, 0, none⟩ ys.length ys.length (strV ys) hx (by simp) ?_ (by simp [strV, Value.oneCell']) (by omega) (by unfold maxLen; omega) (by omega) hbase _ rfl (fun g cap w' h1 => h g cap w' (by
    have e : strV (xs ++ ys) = strV xs ++ strV ys := by simp [strV]
    rw [e]; exact h1))
  intro j u hj
  have hadd : (⟨g0, 0, none⟩ : Addr).add j = ⟨g0, j, none⟩ := by unfold Addr.add; split <;> simp_all
  rw [hadd, hnews.cell]
  simpa using hj

theorem wrca {w : World} {bk lim : Nat} {xs : List (List UInt8)} (h : Wr w bk lim xs := by (repeat' (first | assumption | (refine Wr.alloc ?_ _) | (refine Wr.drewN ?_ _) | (refine Wr.drew ?_) | (refine Wr.kp ?_ (by assumption) ?_) | omega | (simp; done) | (simp; omega)))) : Wr w bk lim xs := h
theorem dvca {w : World} {v : Value} {ts : List T} (h : DataV w v ts := by (repeat' (first | assumption | (refine DataV.alloc ?_ _) | (refine DataV.drewN ?_ _) | (refine DataV.drew ?_) | (refine DataV.kp ?_ (by assumption) ?_) | (refine DataV.wk ?_ (by assumption)) | omega | (simp; done) | (simp; omega)))) : DataV w v ts := h
theorem wkca {lim : Nat} {w w' : World} (h : Wk lim w w' := by (repeat' (first | assumption | exact Wk.refl _ _ | (refine Wk.alloc ?_ ?_ _) | (refine Wk.drewN ?_ _) | (refine Wk.drew ?_) | (refine Wk.trans ?_ (by assumption)) | (refine Wk.trans ?_ (Wk.of_kp (by assumption) ?_)) | omega | (simp; done) | (simp; omega)))) : Wk lim w w' := h

end Go.Proofs.YtbplaekabeggkaaGreatDoor

namespace Go.Proofs.YtbplaekabeggkaaGreatDoor
open Go.RowKit

def PostA (w : World) (bk lim : Nat) (xs : List (List UInt8)) (e : Ending) (w' : World) : Prop := e = .returned (.tuple #[]) ∧ Wr w' bk lim xs ∧ Wk lim w w'

set_option maxRecDepth 100000 in
set_option maxHeartbeats 1000000 in
theorem add_c {w : World} {bk lim : Nat} {xs : List (List UInt8)} (ys : List (List UInt8)) (g0 : Nat) (h : Wr w bk lim xs) (hy : Blk w g0 (strV ys).toArray 9) (hx : xs.length ≤ 100000) (h1 : 1 ≤ ys.length) (h2 : ys.length ≤ 100) :
    Calls Tryz.prog 115 #[ptrV bk, .slice (some ⟨g0, 0, none⟩) ys.length ys.length] w (PostA w bk lim (xs ++ ys)) := by
  obtain ⟨a, n, c, hL, hO⟩ := h.row
  have hge := h.ge
  have hle := h.le
  have c0 := hL.cell
  have f0 := hL.frozen
  have l0 := hL.lt
  have hown : ∀ k, (Value.slice a n c).ownBlock = some k → lim ≤ k ∧ k < w.heap.size := fun k hk => hO.lt k hk
  have hne : ∀ k, (Value.slice a n c).ownBlock = some k → ¬ bk = k ∧ ∃ cur f, w.heap[k]? = some (.cells cur 9 f) := by
    intro k hk
    rcases hO.2 with ⟨hv, -⟩ | ⟨g, cap, cur, hv, -, hg, -⟩
    · rw [hv] at hk; cases hk
    · rw [hv] at hk; cases hk
      refine ⟨fun e => ?_, cur, _, hg⟩
      have := hL.blk
      rw [e, hg] at this
      simp at this
  go_enter Tryz.func115, Tryz.ntmps115
  go_wp2_with (first | (at_builtin; refine wpList_plain rfl (fun KK hKK => ?_); refine app_strs 8 9 rfl lim (.slice a n c) xs ys rfl hO g0 rfl hy hx h2 h1 hle ?_; intro g5 cap w5 ho5 hg5 hat5 hlt5; have L5 := hL.grown hg5 (fun e => (hne _ e.symm).1 rfl); have c5 := L5.cell; have f5 := L5.frozen; have l5 := L5.lt; have s5 := hg5.size; refine hKK _ _ ?_; clear hKK KK) | fail)
  have hgb : ¬ g5 = bk := by
    rcases hat5 with e | e
    · exact fun h => (hne _ e).1 h.symm
    · omega
  go_wp2
  refine bodyPost_ret (v := .tuple #[]) (by simp [results, Tryz.results115, go_sem, *]) rfl ?_
  refine ⟨rfl, ⟨hge, _, _, _, L5.set _, ?_⟩, ⟨hg5.os, hg5.tape, hg5.output, by simpa using s5, fun k hk => ?_, fun k hk h9 h97 => ?_⟩⟩
  · rw [show (xs ++ ys).length = xs.length + ys.length by simp]
    exact ownsRow_frame ho5 (Nat.le_refl _) (fun g hg => by cases hg; exact hS_ne hgb)
  · rw [hS_ne (by omega), hg5.block k (by omega) (fun e => by have := (hown _ e.symm).1; omega)]
  · rw [hS_ne (fun e => h97 _ _ (e ▸ hL.blk)), hg5.block k hk (fun e => by obtain ⟨cur, f, hc⟩ := (hne _ e.symm).2; exact h9 _ _ hc)]

end Go.Proofs.YtbplaekabeggkaaGreatDoor

namespace Go.Proofs.YtbplaekabeggkaaGreatDoor
open Go.RowKit

set_option maxRecDepth 100000 in
set_option maxHeartbeats 400000 in
theorem bin_c (w : World) (n : Int) (h : 1 ≤ n ∧ n ≤ 16) : Calls Tryz.prog 147 #[.int .i64 n] w fun e w' => e = .returned (.bool true) ∧ w' = w := by
  obtain ⟨h1, h2⟩ := h
  go_enter Tryz.func147, Tryz.ntmps147
  go_wp2
  go_ret
  exact ⟨rfl, rfl⟩

theorem itoa_c (w : World) (n : Nat) (h : n < 100) : Calls Tryz.prog 150 #[.int .i64 n] w fun e w' => e = .returned (.string ⟨(Lib.decDigits n).toArray⟩) ∧ w' = w := by
  have hi := Tryz.strconv_Itoa_small n h w
  go_enter Tryz.func150, Tryz.ntmps150
  go_wp2_with fail
  refine hi.mono ?_
  rintro e w2 ⟨rfl, rfl⟩
  go_wp2
  go_ret
  exact ⟨rfl, rfl⟩

set_option maxRecDepth 100000 in
set_option maxHeartbeats 400000 in
theorem sign_c (w : World) (n : Nat) (h1 : 1 ≤ n) (h2 : n ≤ 16) : Calls Tryz.prog 118 #[.int .i64 n] w fun e w' => e = .returned (.string (B (signStr n))) ∧ Kp w.heap.size [] w w' := by
  have hb := bin_c w n (by omega)
  have hs := signs_c w
  go_enter Tryz.func118, Tryz.ntmps118
  go_wp2_with fail
  refine hb.mono ?_
  rintro e w2 ⟨rfl, rfl⟩
  go_wp2_with fail
  refine hs.mono ?_
  rintro e w3 ⟨rfl, rfl⟩
  have hc : (w2.alloc (.cells (strsV signsL) 9)).cell? ⟨w2.heap.size, n, none⟩ = some (.string (B (signStr n))) := by
    rw [(Blk.new w2 (strsV signsL) 9).cell]
    have hn : n = 1 ∨ n = 2 ∨ n = 3 ∨ n = 4 ∨ n = 5 ∨ n = 6 ∨ n = 7 ∨ n = 8 ∨ n = 9 ∨ n = 10 ∨ n = 11 ∨ n = 12 ∨ n = 13 ∨ n = 14 ∨ n = 15 ∨ n = 16 := by omega
    rcases hn with rfl | rfl | rfl | rfl | rfl | rfl | rfl | rfl | rfl | rfl | rfl | rfl | rfl | rfl | rfl | rfl <;> rfl
  go_wp2
  go_ret
  exact ⟨rfl, kpa⟩

end Go.Proofs.YtbplaekabeggkaaGreatDoor

namespace Go.Proofs.YtbplaekabeggkaaGreatDoor
open Go.RowKit

theorem DataV.kp {w w' : World} {v : Value} {ts : List T} {n : Nat} (h : DataV w v ts) (k : Kp n [] w w') (hn : w.heap.size ≤ n) : DataV w' v ts := h.wk (Wk.of_kp (lim := 0) (k.le hn) (Nat.zero_le _))
theorem DataV.alloc {w : World} {v : Value} {t : List T} (h : DataV w v t) (o : Obj) : DataV (w.alloc o) v t := h.kp ((Kp.refl w.heap.size [] w).alloc (Nat.le_refl _) o) (Nat.le_refl _)
theorem DataV.drew {w : World} {v : Value} {t : List T} (h : DataV w v t) : DataV w.drew v t := h.kp ((Kp.refl w.heap.size [] w).drew) (Nat.le_refl _)
theorem DataV.drewN {w : World} {v : Value} {t : List T} (h : DataV w v t) (q : Nat) : DataV (w.drewN q) v t := h.kp ((Kp.refl w.heap.size [] w).drewN q) (Nat.le_refl _)
theorem Blk.six {w : World} {b : Nat} {x0 x1 x2 x3 x4 x5 : Value} {t : TypeId} (h : Blk w b #[x0, x1, x2, x3, x4, x5] t) : w.cell? ⟨b, 0, none⟩ = some x0 ∧ w.cell? ⟨b, 1, none⟩ = some x1 ∧ w.cell? ⟨b, 2, none⟩ = some x2 ∧ w.cell? ⟨b, 3, none⟩ = some x3 ∧ w.cell? ⟨b, 4, none⟩ = some x4 ∧ w.cell? ⟨b, 5, none⟩ = some x5 :=
  ⟨h.cell 0, h.cell 1, h.cell 2, h.cell 3, h.cell 4, h.cell 5⟩

set_option maxRecDepth 100000 in
set_option maxHeartbeats 1000000 in
theorem node_85 {w : World} {bk lim : Nat} {xs ys : List (List UInt8)} {v : Value} {t : T} (hop : 1 ≤ t.op ∧ t.op ≤ 5) (hN : IsN w v t) (hW : Wr w bk lim xs)
    (hc : ∀ w1 a cap, IsN w1 v t → DataV w1 (.slice a t.kids.length cap) t.kids → Wr w1 bk lim xs → Calls Tryz.prog 85 #[ptrV bk, v, .agg #[.int .i64 t.op, .string (B t.name), .string (B t.typ), .int .i64 t.n, .int .i64 t.at_, .slice a t.kids.length cap]] w1 (PostA w1 bk lim ys)) :
    Calls Tryz.prog 52 #[ptrV bk, v] w (PostA w bk lim ys) := by
  obtain ⟨p, rfl⟩ := hN.shape
  have WR := hW
  have N := hN
  have X : Loc (w.alloc (.cells #[.pointer p] 30)) w.heap.size (.pointer p) 30 := Loc.new _ _ _
  have K := Wk.refl lim w
  clear hN hW
  have o3 : ¬ t.op < 1 := by omega
  have o4 : t.op ≤ 5 := by omega
  have WRl_w := WR.le
  replace WR : Wr ((w.alloc (.cells #[.pointer p] 30))) bk lim xs := wrca
  replace WRl := WR.lt
  have WRl_walloccellspointerp30 := WR.le
  replace N : IsN ((w.alloc (.cells #[.pointer p] 30))) (.agg #[.pointer p]) t := inna
  replace X : Loc ((w.alloc (.cells #[.pointer p] 30))) w.heap.size (.pointer p) 30 := loca
  replace Xc := X.cell
  replace Xl := X.lt
  have Xl_walloccellspointerp30 := Xl
  replace Xf := X.frozen
  replace K : Wk lim w ((w.alloc (.cells #[.pointer p] 30))) := wkca
  go_enter Tryz.func52, Tryz.ntmps52
  go_wp2_with fail
  refine (getD_c N).mono ?_
  rintro e w2 ⟨a, cap, rfl, DV, hk2⟩
  have z2 := hk2.size
  try simp at z2
  replace WR : Wr w2 bk lim xs := wrca
  replace WRl := WR.lt
  have WRl_w2 := WR.le
  replace N : IsN w2 (.agg #[.pointer p]) t := inna
  replace X : Loc w2 w.heap.size (.pointer p) 30 := loca
  replace Xc := X.cell
  replace Xl := X.lt
  have Xl_w2 := Xl
  replace Xf := X.frozen
  replace DV : DataV w2 (.slice a t.kids.length cap) t.kids := dvca
  replace K : Wk lim w w2 := wkca
  clear hk2
  have D : Blk (w2.alloc (.cells #[.int .i64 t.op, .string (B t.name), .string (B t.typ), .int .i64 t.n, .int .i64 t.at_, .slice a t.kids.length cap] 108)) w2.heap.size #[.int .i64 t.op, .string (B t.name), .string (B t.typ), .int .i64 t.n, .int .i64 t.at_, .slice a t.kids.length cap] 108 := Blk.new _ _ _
  replace WR : Wr ((w2.alloc (.cells #[.int .i64 t.op, .string (B t.name), .string (B t.typ), .int .i64 t.n, .int .i64 t.at_, .slice a t.kids.length cap] 108))) bk lim xs := wrca
  replace WRl := WR.lt
  have WRl_w2alloccellsinti64topstringBtnamestringBttypinti64tninti64tatsliceatkidslengthcap108 := WR.le
  replace N : IsN ((w2.alloc (.cells #[.int .i64 t.op, .string (B t.name), .string (B t.typ), .int .i64 t.n, .int .i64 t.at_, .slice a t.kids.length cap] 108))) (.agg #[.pointer p]) t := inna
  replace X : Loc ((w2.alloc (.cells #[.int .i64 t.op, .string (B t.name), .string (B t.typ), .int .i64 t.n, .int .i64 t.at_, .slice a t.kids.length cap] 108))) w.heap.size (.pointer p) 30 := loca
  replace Xc := X.cell
  replace Xl := X.lt
  have Xl_w2alloccellsinti64topstringBtnamestringBttypinti64tninti64tatsliceatkidslengthcap108 := Xl
  replace Xf := X.frozen
  replace DV : DataV ((w2.alloc (.cells #[.int .i64 t.op, .string (B t.name), .string (B t.typ), .int .i64 t.n, .int .i64 t.at_, .slice a t.kids.length cap] 108))) (.slice a t.kids.length cap) t.kids := dvca
  replace D : Blk ((w2.alloc (.cells #[.int .i64 t.op, .string (B t.name), .string (B t.typ), .int .i64 t.n, .int .i64 t.at_, .slice a t.kids.length cap] 108))) w2.heap.size #[.int .i64 t.op, .string (B t.name), .string (B t.typ), .int .i64 t.n, .int .i64 t.at_, .slice a t.kids.length cap] 108 := bka
  replace Dl := D.lt
  replace D0 := D.six.1
  replace D1 := D.six.2.1
  replace D2 := D.six.2.2.1
  replace D3 := D.six.2.2.2.1
  replace D4 := D.six.2.2.2.2.1
  replace D5 := D.six.2.2.2.2.2
  replace Df := D.frozen
  replace K : Wk lim w ((w2.alloc (.cells #[.int .i64 t.op, .string (B t.name), .string (B t.typ), .int .i64 t.n, .int .i64 t.at_, .slice a t.kids.length cap] 108))) := wkca
  go_wp2_with fail
  refine (hc _ a cap N DV WR).mono ?_
  rintro e w3 ⟨rfl, WR3, hw3⟩
  have z3 := hw3.size
  go_wp2
  refine bodyPost_ret (v := .tuple #[]) (by simp [results, Tryz.results52, go_sem, *]) rfl ?_
  exact ⟨rfl, WR3, wkca⟩

set_option maxRecDepth 100000 in
set_option maxHeartbeats 1000000 in
theorem node_86 {w : World} {bk lim : Nat} {xs ys : List (List UInt8)} {v : Value} {t : T} (hop : 6 ≤ t.op ∧ t.op ≤ 14) (hN : IsN w v t) (hW : Wr w bk lim xs)
    (hc : ∀ w1 a cap, IsN w1 v t → DataV w1 (.slice a t.kids.length cap) t.kids → Wr w1 bk lim xs → Calls Tryz.prog 86 #[ptrV bk, v, .agg #[.int .i64 t.op, .string (B t.name), .string (B t.typ), .int .i64 t.n, .int .i64 t.at_, .slice a t.kids.length cap]] w1 (PostA w1 bk lim ys)) :
    Calls Tryz.prog 52 #[ptrV bk, v] w (PostA w bk lim ys) := by
  obtain ⟨p, rfl⟩ := hN.shape
  have WR := hW
  have N := hN
  have X : Loc (w.alloc (.cells #[.pointer p] 30)) w.heap.size (.pointer p) 30 := Loc.new _ _ _
  have K := Wk.refl lim w
  clear hN hW
  have o3 : ¬ t.op < 1 := by omega
  have o4 : ¬ t.op ≤ 5 := by omega
  have o5 : t.op ≤ 14 := by omega
  have WRl_w := WR.le
  replace WR : Wr ((w.alloc (.cells #[.pointer p] 30))) bk lim xs := wrca
  replace WRl := WR.lt
  have WRl_walloccellspointerp30 := WR.le
  replace N : IsN ((w.alloc (.cells #[.pointer p] 30))) (.agg #[.pointer p]) t := inna
  replace X : Loc ((w.alloc (.cells #[.pointer p] 30))) w.heap.size (.pointer p) 30 := loca
  replace Xc := X.cell
  replace Xl := X.lt
  have Xl_walloccellspointerp30 := Xl
  replace Xf := X.frozen
  replace K : Wk lim w ((w.alloc (.cells #[.pointer p] 30))) := wkca
  go_enter Tryz.func52, Tryz.ntmps52
  go_wp2_with fail
  refine (getD_c N).mono ?_
  rintro e w2 ⟨a, cap, rfl, DV, hk2⟩
  have z2 := hk2.size
  try simp at z2
  replace WR : Wr w2 bk lim xs := wrca
  replace WRl := WR.lt
  have WRl_w2 := WR.le
  replace N : IsN w2 (.agg #[.pointer p]) t := inna
  replace X : Loc w2 w.heap.size (.pointer p) 30 := loca
  replace Xc := X.cell
  replace Xl := X.lt
  have Xl_w2 := Xl
  replace Xf := X.frozen
  replace DV : DataV w2 (.slice a t.kids.length cap) t.kids := dvca
  replace K : Wk lim w w2 := wkca
  clear hk2
  have D : Blk (w2.alloc (.cells #[.int .i64 t.op, .string (B t.name), .string (B t.typ), .int .i64 t.n, .int .i64 t.at_, .slice a t.kids.length cap] 108)) w2.heap.size #[.int .i64 t.op, .string (B t.name), .string (B t.typ), .int .i64 t.n, .int .i64 t.at_, .slice a t.kids.length cap] 108 := Blk.new _ _ _
  replace WR : Wr ((w2.alloc (.cells #[.int .i64 t.op, .string (B t.name), .string (B t.typ), .int .i64 t.n, .int .i64 t.at_, .slice a t.kids.length cap] 108))) bk lim xs := wrca
  replace WRl := WR.lt
  have WRl_w2alloccellsinti64topstringBtnamestringBttypinti64tninti64tatsliceatkidslengthcap108 := WR.le
  replace N : IsN ((w2.alloc (.cells #[.int .i64 t.op, .string (B t.name), .string (B t.typ), .int .i64 t.n, .int .i64 t.at_, .slice a t.kids.length cap] 108))) (.agg #[.pointer p]) t := inna
  replace X : Loc ((w2.alloc (.cells #[.int .i64 t.op, .string (B t.name), .string (B t.typ), .int .i64 t.n, .int .i64 t.at_, .slice a t.kids.length cap] 108))) w.heap.size (.pointer p) 30 := loca
  replace Xc := X.cell
  replace Xl := X.lt
  have Xl_w2alloccellsinti64topstringBtnamestringBttypinti64tninti64tatsliceatkidslengthcap108 := Xl
  replace Xf := X.frozen
  replace DV : DataV ((w2.alloc (.cells #[.int .i64 t.op, .string (B t.name), .string (B t.typ), .int .i64 t.n, .int .i64 t.at_, .slice a t.kids.length cap] 108))) (.slice a t.kids.length cap) t.kids := dvca
  replace D : Blk ((w2.alloc (.cells #[.int .i64 t.op, .string (B t.name), .string (B t.typ), .int .i64 t.n, .int .i64 t.at_, .slice a t.kids.length cap] 108))) w2.heap.size #[.int .i64 t.op, .string (B t.name), .string (B t.typ), .int .i64 t.n, .int .i64 t.at_, .slice a t.kids.length cap] 108 := bka
  replace Dl := D.lt
  replace D0 := D.six.1
  replace D1 := D.six.2.1
  replace D2 := D.six.2.2.1
  replace D3 := D.six.2.2.2.1
  replace D4 := D.six.2.2.2.2.1
  replace D5 := D.six.2.2.2.2.2
  replace Df := D.frozen
  replace K : Wk lim w ((w2.alloc (.cells #[.int .i64 t.op, .string (B t.name), .string (B t.typ), .int .i64 t.n, .int .i64 t.at_, .slice a t.kids.length cap] 108))) := wkca
  go_wp2_with fail
  refine (hc _ a cap N DV WR).mono ?_
  rintro e w3 ⟨rfl, WR3, hw3⟩
  have z3 := hw3.size
  go_wp2
  refine bodyPost_ret (v := .tuple #[]) (by simp [results, Tryz.results52, go_sem, *]) rfl ?_
  exact ⟨rfl, WR3, wkca⟩

set_option maxRecDepth 100000 in
set_option maxHeartbeats 1000000 in
theorem node_87 {w : World} {bk lim : Nat} {xs ys : List (List UInt8)} {v : Value} {t : T} (hop : 15 ≤ t.op) (hN : IsN w v t) (hW : Wr w bk lim xs)
    (hc : ∀ w1 a cap, IsN w1 v t → DataV w1 (.slice a t.kids.length cap) t.kids → Wr w1 bk lim xs → Calls Tryz.prog 87 #[ptrV bk, v, .agg #[.int .i64 t.op, .string (B t.name), .string (B t.typ), .int .i64 t.n, .int .i64 t.at_, .slice a t.kids.length cap]] w1 (PostA w1 bk lim ys)) :
    Calls Tryz.prog 52 #[ptrV bk, v] w (PostA w bk lim ys) := by
  obtain ⟨p, rfl⟩ := hN.shape
  have WR := hW
  have N := hN
  have X : Loc (w.alloc (.cells #[.pointer p] 30)) w.heap.size (.pointer p) 30 := Loc.new _ _ _
  have K := Wk.refl lim w
  clear hN hW
  have o3 : ¬ t.op < 1 := by omega
  have o4 : ¬ t.op ≤ 5 := by omega
  have o5 : ¬ t.op ≤ 14 := by omega
  have WRl_w := WR.le
  replace WR : Wr ((w.alloc (.cells #[.pointer p] 30))) bk lim xs := wrca
  replace WRl := WR.lt
  have WRl_walloccellspointerp30 := WR.le
  replace N : IsN ((w.alloc (.cells #[.pointer p] 30))) (.agg #[.pointer p]) t := inna
  replace X : Loc ((w.alloc (.cells #[.pointer p] 30))) w.heap.size (.pointer p) 30 := loca
  replace Xc := X.cell
  replace Xl := X.lt
  have Xl_walloccellspointerp30 := Xl
  replace Xf := X.frozen
  replace K : Wk lim w ((w.alloc (.cells #[.pointer p] 30))) := wkca
  go_enter Tryz.func52, Tryz.ntmps52
  go_wp2_with fail
  refine (getD_c N).mono ?_
  rintro e w2 ⟨a, cap, rfl, DV, hk2⟩
  have z2 := hk2.size
  try simp at z2
  replace WR : Wr w2 bk lim xs := wrca
  replace WRl := WR.lt
  have WRl_w2 := WR.le
  replace N : IsN w2 (.agg #[.pointer p]) t := inna
  replace X : Loc w2 w.heap.size (.pointer p) 30 := loca
  replace Xc := X.cell
  replace Xl := X.lt
  have Xl_w2 := Xl
  replace Xf := X.frozen
  replace DV : DataV w2 (.slice a t.kids.length cap) t.kids := dvca
  replace K : Wk lim w w2 := wkca
  clear hk2
  have D : Blk (w2.alloc (.cells #[.int .i64 t.op, .string (B t.name), .string (B t.typ), .int .i64 t.n, .int .i64 t.at_, .slice a t.kids.length cap] 108)) w2.heap.size #[.int .i64 t.op, .string (B t.name), .string (B t.typ), .int .i64 t.n, .int .i64 t.at_, .slice a t.kids.length cap] 108 := Blk.new _ _ _
  replace WR : Wr ((w2.alloc (.cells #[.int .i64 t.op, .string (B t.name), .string (B t.typ), .int .i64 t.n, .int .i64 t.at_, .slice a t.kids.length cap] 108))) bk lim xs := wrca
  replace WRl := WR.lt
  have WRl_w2alloccellsinti64topstringBtnamestringBttypinti64tninti64tatsliceatkidslengthcap108 := WR.le
  replace N : IsN ((w2.alloc (.cells #[.int .i64 t.op, .string (B t.name), .string (B t.typ), .int .i64 t.n, .int .i64 t.at_, .slice a t.kids.length cap] 108))) (.agg #[.pointer p]) t := inna
  replace X : Loc ((w2.alloc (.cells #[.int .i64 t.op, .string (B t.name), .string (B t.typ), .int .i64 t.n, .int .i64 t.at_, .slice a t.kids.length cap] 108))) w.heap.size (.pointer p) 30 := loca
  replace Xc := X.cell
  replace Xl := X.lt
  have Xl_w2alloccellsinti64topstringBtnamestringBttypinti64tninti64tatsliceatkidslengthcap108 := Xl
  replace Xf := X.frozen
  replace DV : DataV ((w2.alloc (.cells #[.int .i64 t.op, .string (B t.name), .string (B t.typ), .int .i64 t.n, .int .i64 t.at_, .slice a t.kids.length cap] 108))) (.slice a t.kids.length cap) t.kids := dvca
  replace D : Blk ((w2.alloc (.cells #[.int .i64 t.op, .string (B t.name), .string (B t.typ), .int .i64 t.n, .int .i64 t.at_, .slice a t.kids.length cap] 108))) w2.heap.size #[.int .i64 t.op, .string (B t.name), .string (B t.typ), .int .i64 t.n, .int .i64 t.at_, .slice a t.kids.length cap] 108 := bka
  replace Dl := D.lt
  replace D0 := D.six.1
  replace D1 := D.six.2.1
  replace D2 := D.six.2.2.1
  replace D3 := D.six.2.2.2.1
  replace D4 := D.six.2.2.2.2.1
  replace D5 := D.six.2.2.2.2.2
  replace Df := D.frozen
  replace K : Wk lim w ((w2.alloc (.cells #[.int .i64 t.op, .string (B t.name), .string (B t.typ), .int .i64 t.n, .int .i64 t.at_, .slice a t.kids.length cap] 108))) := wkca
  go_wp2_with fail
  refine (hc _ a cap N DV WR).mono ?_
  rintro e w3 ⟨rfl, WR3, hw3⟩
  have z3 := hw3.size
  go_wp2
  refine bodyPost_ret (v := .tuple #[]) (by simp [results, Tryz.results52, go_sem, *]) rfl ?_
  exact ⟨rfl, WR3, wkca⟩

end Go.Proofs.YtbplaekabeggkaaGreatDoor

namespace Go.Proofs.YtbplaekabeggkaaGreatDoor
open Go.RowKit

theorem digs_dec : ∀ (k u : Nat), u < 10 ^ (k + 1) → digitsNat (k + 1) u = Lib.decDigits u
  | 0, u, h => by rw [digitsNat, if_pos (by simpa using h), Lib.decDigits, dif_pos (by simpa using h)]
  | k + 1, u, h => by
    rw [digitsNat, Lib.decDigits]
    by_cases h1 : u < 10
    · rw [if_pos h1, dif_pos h1]
    · rw [if_neg h1, dif_neg h1, digs_dec k (u / 10) (by rw [Nat.pow_succ] at h; omega)]
theorem itoa_dec (n : Nat) (h : n < 100) : Lib.decDigits n = itoaL (n : Nat) := by
  unfold itoaL
  rw [if_neg (by omega), Int.natAbs_natCast]
  exact (digs_dec 19 n (by omega)).symm
theorem text_c (w : World) (n : Nat) (h : n < 100) : Calls Tryz.prog 150 #[.int .i64 n] w fun e w' => e = .returned (.string (B (itoaL n))) ∧ w' = w := by
  refine (itoa_c w n h).mono ?_
  rintro e w' ⟨rfl, rfl⟩
  exact ⟨by rw [← itoa_dec n h]; rfl, rfl⟩

set_option maxRecDepth 100000 in
set_option maxHeartbeats 1000000 in
theorem leaf_15 {w : World} {bk lim : Nat} {xs : List (List UInt8)} (n : Nat) (nm ty : ByteArray) (at_ : Int) (a : Option Addr) (m cap : Nat) (hn : n < 100) (hW : Wr w bk lim xs) (hx : xs.length ≤ 100000) :
    Calls Tryz.prog 120 #[ptrV bk, .agg #[.int .i64 15, .string nm, .string ty, .int .i64 n, .int .i64 at_, .slice a m cap]] w (PostA w bk lim (xs ++ [itoaL n])) := by
  have WR := hW
  have K := Wk.refl lim w
  have D : Blk (w.alloc (.cells #[.int .i64 15, .string nm, .string ty, .int .i64 n, .int .i64 at_, .slice a m cap] 108)) w.heap.size #[.int .i64 15, .string nm, .string ty, .int .i64 n, .int .i64 at_, .slice a m cap] 108 := Blk.new _ _ _
  clear hW
  have WRl_w := WR.le
  replace WR : Wr ((w.alloc (.cells #[.int .i64 15, .string nm, .string ty, .int .i64 n, .int .i64 at_, .slice a m cap] 108))) bk lim xs := wrca
  replace WRl := WR.lt
  have WRl_walloccellsinti6415stringnmstringtyinti64ninti64atsliceamcap108 := WR.le
  replace D : Blk ((w.alloc (.cells #[.int .i64 15, .string nm, .string ty, .int .i64 n, .int .i64 at_, .slice a m cap] 108))) w.heap.size #[.int .i64 15, .string nm, .string ty, .int .i64 n, .int .i64 at_, .slice a m cap] 108 := bka
  replace Dl := D.lt
  replace D0 := D.six.1
  replace D1 := D.six.2.1
  replace D2 := D.six.2.2.1
  replace D3 := D.six.2.2.2.1
  replace D4 := D.six.2.2.2.2.1
  replace D5 := D.six.2.2.2.2.2
  replace Df := D.frozen
  replace K : Wk lim w ((w.alloc (.cells #[.int .i64 15, .string nm, .string ty, .int .i64 n, .int .i64 at_, .slice a m cap] 108))) := wkca
  have ht := fun w1 => text_c w1 n hn
  go_enter Tryz.func120, Tryz.ntmps120
  go_wp2_with fail
  refine (ht _).mono ?_
  rintro e w2 ⟨rfl, rfl⟩
  go_wp2_with fail
  refine ((add_c [itoaL n] (w.heap.size + 1) (WR.alloc _) (bka) hx (by simp) (by simp))).mono ?_
  rintro e w3 ⟨rfl, WR3, hw3⟩
  have z3 := hw3.size
  try simp at z3
  clear WR
  replace D : Blk w3 w.heap.size #[.int .i64 15, .string nm, .string ty, .int .i64 n, .int .i64 at_, .slice a m cap] 108 := bka
  replace Dl := D.lt
  replace D0 := D.six.1
  replace D1 := D.six.2.1
  replace D2 := D.six.2.2.1
  replace D3 := D.six.2.2.2.1
  replace D4 := D.six.2.2.2.2.1
  replace D5 := D.six.2.2.2.2.2
  replace Df := D.frozen
  replace K : Wk lim w w3 := wkca
  clear hw3
  have WR := WR3
  clear WR3
  replace WRl := WR.lt
  have WRl_w3 := WR.le
  go_wp2
  refine bodyPost_ret (v := .tuple #[]) (by simp [results, Tryz.results120, go_sem, *]) rfl ?_
  exact ⟨rfl, WR, wkca⟩

set_option maxRecDepth 100000 in
set_option maxHeartbeats 1000000 in
theorem expr_15 {w : World} {bk lim : Nat} {xs : List (List UInt8)} (v : Value) (n : Nat) (nm ty : ByteArray) (at_ : Int) (a : Option Addr) (m cap : Nat) (hv : ∃ p, v = .agg #[.pointer p]) (hn : n < 100) (hW : Wr w bk lim xs) (hx : xs.length ≤ 100000) :
    Calls Tryz.prog 87 #[ptrV bk, v, .agg #[.int .i64 15, .string nm, .string ty, .int .i64 n, .int .i64 at_, .slice a m cap]] w (PostA w bk lim (xs ++ [itoaL n])) := by
  obtain ⟨p, rfl⟩ := hv
  have WR := hW
  have K := Wk.refl lim w
  have D : Blk ((w.alloc (.cells #[.pointer p] 30)).alloc (.cells #[.int .i64 15, .string nm, .string ty, .int .i64 n, .int .i64 at_, .slice a m cap] 108)) (w.heap.size + 1) #[.int .i64 15, .string nm, .string ty, .int .i64 n, .int .i64 at_, .slice a m cap] 108 := Blk.new' _ _ _ (by simp)
  clear hW
  have WRl_w := WR.le
  replace WR : Wr (((w.alloc (.cells #[.pointer p] 30)).alloc (.cells #[.int .i64 15, .string nm, .string ty, .int .i64 n, .int .i64 at_, .slice a m cap] 108))) bk lim xs := wrca
  replace WRl := WR.lt
  have WRl_walloccellspointerp30alloccellsinti6415stringnmstringtyinti64ninti64atsliceamcap108 := WR.le
  replace D : Blk (((w.alloc (.cells #[.pointer p] 30)).alloc (.cells #[.int .i64 15, .string nm, .string ty, .int .i64 n, .int .i64 at_, .slice a m cap] 108))) (w.heap.size + 1) #[.int .i64 15, .string nm, .string ty, .int .i64 n, .int .i64 at_, .slice a m cap] 108 := bka
  replace Dl := D.lt
  replace D0 := D.six.1
  replace D1 := D.six.2.1
  replace D2 := D.six.2.2.1
  replace D3 := D.six.2.2.2.1
  replace D4 := D.six.2.2.2.2.1
  replace D5 := D.six.2.2.2.2.2
  replace Df := D.frozen
  replace K : Wk lim w (((w.alloc (.cells #[.pointer p] 30)).alloc (.cells #[.int .i64 15, .string nm, .string ty, .int .i64 n, .int .i64 at_, .slice a m cap] 108))) := wkca
  go_enter Tryz.func87, Tryz.ntmps87
  go_wp2_with fail
  refine ((leaf_15 n nm ty at_ a m cap hn WR hx)).mono ?_
  rintro e w3 ⟨rfl, WR3, hw3⟩
  have z3 := hw3.size
  try simp at z3
  clear WR
  replace D : Blk w3 (w.heap.size + 1) #[.int .i64 15, .string nm, .string ty, .int .i64 n, .int .i64 at_, .slice a m cap] 108 := bka
  replace Dl := D.lt
  replace D0 := D.six.1
  replace D1 := D.six.2.1
  replace D2 := D.six.2.2.1
  replace D3 := D.six.2.2.2.1
  replace D4 := D.six.2.2.2.2.1
  replace D5 := D.six.2.2.2.2.2
  replace Df := D.frozen
  replace K : Wk lim w w3 := wkca
  clear hw3
  have WR := WR3
  clear WR3
  replace WRl := WR.lt
  have WRl_w3 := WR.le
  go_wp2
  refine bodyPost_ret (v := .tuple #[]) (by simp [results, Tryz.results87, go_sem, *]) rfl ?_
  exact ⟨rfl, WR, wkca⟩

end Go.Proofs.YtbplaekabeggkaaGreatDoor
