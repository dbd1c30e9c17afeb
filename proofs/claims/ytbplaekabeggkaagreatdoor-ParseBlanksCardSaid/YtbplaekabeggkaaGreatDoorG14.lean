/- PROVED: the law ParseBlanks of layer 4 answers true for every string, as its given card says (the listed package variables as the program lays them); no other condition. The parser, the lexer and the writer of the awake test are walked whole. Text 14 of 16. -/
import Derived.Test.YtbplaekabeggkaaGreatDoorG13
import Derived.Test.YtbplaekabeggkaaGreatDoorG01
set_option linter.unusedSimpArgs false
set_option linter.unusedVariables false
namespace Go.Proofs.YtbplaekabeggkaaGreatDoor
open Go.RowKit

theorem kid0_c {w : World} {v : Value} {t : T} (h : IsN w v t) (i : Nat) {n : Int} (hn : n = i) : Calls Tryz.prog 30 #[v, .int .i64 n] w (PostK w (t.kids[i]?.getD zeroT)) := by
  subst hn; exact kid_c h i

set_option maxRecDepth 100000 in
set_option maxHeartbeats 1000000 in
theorem two_c {w : World} {bk lim : Nat} {xs y0 y1 : List (List UInt8)} {v : Value} {t : T} (sg : List UInt8) (hN : IsN w v t) (hW : Wr w bk lim xs) (hx : xs.length + y0.length + y1.length + 3 ≤ 100000)
    (h0 : ∀ v' w', IsN w' v' (t.kids[0]?.getD zeroT) → Wr w' bk lim (xs ++ [kLpar]) → Calls Tryz.prog 52 #[ptrV bk, v'] w' (PostA w' bk lim (xs ++ [kLpar] ++ y0)))
    (h1 : ∀ v' w', IsN w' v' (t.kids[1]?.getD zeroT) → Wr w' bk lim (xs ++ [kLpar] ++ y0 ++ [sg]) → Calls Tryz.prog 52 #[ptrV bk, v'] w' (PostA w' bk lim (xs ++ [kLpar] ++ y0 ++ [sg] ++ y1))) :
    Calls Tryz.prog 119 #[ptrV bk, v, .string (B sg)] w (PostA w bk lim (xs ++ [kLpar] ++ y0 ++ [sg] ++ y1 ++ [kRpar])) := by
  obtain ⟨p, rfl⟩ := hN.shape
  have WR := hW
  have N := hN
  have X : Loc (w.alloc (.cells #[.pointer p] 30)) w.heap.size (.pointer p) 30 := Loc.new _ _ _
  have K := Wk.refl lim w
  clear hN hW
  have WRl_w := WR.le
  replace WR : Wr ((w.alloc (.cells #[.pointer p] 30))) bk lim xs := wrca
  replace WRl := WR.lt
  have WRl_walloccellspointerp30 := WR.le
  replace N : IsN ((w.alloc (.cells #[.pointer p] 30))) (.agg #[.pointer p]) t := inna
  replace X : Loc ((w.alloc (.cells #[.pointer p] 30))) w.heap.size (.pointer p) 30 := loca
  replace Xc := X.cell
  replace Xl := X.lt
  have Xl_walloccellspointerp30 := Xl
  replace Xf := X.frozen
  replace K : Wk lim w ((w.alloc (.cells #[.pointer p] 30))) := wkca
  go_enter Tryz.func119, Tryz.ntmps119
  go_wp2_with fail
  refine ((add_c [kLpar] (w.heap.size + 1) (WR.alloc _) (bka) (by omega) (by simp) (by simp))).mono ?_
  rintro e w2 ⟨rfl, WR2, hw2⟩
  have z2 := hw2.size
  try simp at z2
  clear WR
  replace N : IsN w2 (.agg #[.pointer p]) t := inna
  replace X : Loc w2 w.heap.size (.pointer p) 30 := loca
  replace Xc := X.cell
  replace Xl := X.lt
  have Xl_w2 := Xl
  replace Xf := X.frozen
  replace K : Wk lim w w2 := wkca
  clear hw2
  have WR := WR2
  clear WR2
  replace WRl := WR.lt
  have WRl_w2 := WR.le
  go_wp2_with fail
  refine (kid0_c N 0 rfl).mono ?_
  rintro e w3 ⟨v3, rfl, N3, hk3⟩
  have z3 := hk3.size
  replace WR : Wr w3 bk lim (xs ++ [kLpar]) := wrca
  replace WRl := WR.lt
  have WRl_w3 := WR.le
  replace N : IsN w3 (.agg #[.pointer p]) t := inna
  replace X : Loc w3 w.heap.size (.pointer p) 30 := loca
  replace Xc := X.cell
  replace Xl := X.lt
  have Xl_w3 := Xl
  replace Xf := X.frozen
  replace N3 : IsN w3 v3 (t.kids[0]?.getD zeroT) := inna
  replace K : Wk lim w w3 := wkca
  clear hk3
  have H := h0 v3 _ N3 WR
  go_wp2_with fail
  refine (H).mono ?_
  rintro e w4 ⟨rfl, WR4, hw4⟩
  have z4 := hw4.size
  try simp at z4
  clear WR
  replace N : IsN w4 (.agg #[.pointer p]) t := inna
  replace X : Loc w4 w.heap.size (.pointer p) 30 := loca
  replace Xc := X.cell
  replace Xl := X.lt
  have Xl_w4 := Xl
  replace Xf := X.frozen
  replace K : Wk lim w w4 := wkca
  clear hw4
  have WR := WR4
  clear WR4
  replace WRl := WR.lt
  have WRl_w4 := WR.le
  clear H h0 N3
  go_wp2_with fail
  refine ((add_c [sg] w4.heap.size (WR.alloc _) (bka) (by simp; omega) (by simp) (by simp))).mono ?_
  rintro e w5 ⟨rfl, WR5, hw5⟩
  have z5 := hw5.size
  try simp at z5
  clear WR
  replace N : IsN w5 (.agg #[.pointer p]) t := inna
  replace X : Loc w5 w.heap.size (.pointer p) 30 := loca
  replace Xc := X.cell
  replace Xl := X.lt
  have Xl_w5 := Xl
  replace Xf := X.frozen
  replace K : Wk lim w w5 := wkca
  clear hw5
  have WR := WR5
  clear WR5
  replace WRl := WR.lt
  have WRl_w5 := WR.le
  go_wp2_with fail
  refine (kid0_c N 1 rfl).mono ?_
  rintro e w6 ⟨v6, rfl, N6, hk6⟩
  have z6 := hk6.size
  replace WR : Wr w6 bk lim (xs ++ [kLpar] ++ y0 ++ [sg]) := wrca
  replace WRl := WR.lt
  have WRl_w6 := WR.le
  replace N : IsN w6 (.agg #[.pointer p]) t := inna
  replace X : Loc w6 w.heap.size (.pointer p) 30 := loca
  replace Xc := X.cell
  replace Xl := X.lt
  have Xl_w6 := Xl
  replace Xf := X.frozen
  replace N6 : IsN w6 v6 (t.kids[1]?.getD zeroT) := inna
  replace K : Wk lim w w6 := wkca
  clear hk6
  have H := h1 v6 _ N6 WR
  go_wp2_with fail
  refine (H).mono ?_
  rintro e w7 ⟨rfl, WR7, hw7⟩
  have z7 := hw7.size
  try simp at z7
  clear WR
  replace N : IsN w7 (.agg #[.pointer p]) t := inna
  replace X : Loc w7 w.heap.size (.pointer p) 30 := loca
  replace Xc := X.cell
  replace Xl := X.lt
  have Xl_w7 := Xl
  replace Xf := X.frozen
  replace K : Wk lim w w7 := wkca
  clear hw7
  have WR := WR7
  clear WR7
  replace WRl := WR.lt
  have WRl_w7 := WR.le
  clear H h1 N6
  go_wp2_with fail
  refine ((add_c [kRpar] w7.heap.size (WR.alloc _) (bka) (by simp; omega) (by simp) (by simp))).mono ?_
  rintro e w8 ⟨rfl, WR8, hw8⟩
  have z8 := hw8.size
  try simp at z8
  clear WR
  replace N : IsN w8 (.agg #[.pointer p]) t := inna
  replace X : Loc w8 w.heap.size (.pointer p) 30 := loca
  replace Xc := X.cell
  replace Xl := X.lt
  have Xl_w8 := Xl
  replace Xf := X.frozen
  replace K : Wk lim w w8 := wkca
  clear hw8
  have WR := WR8
  clear WR8
  replace WRl := WR.lt
  have WRl_w8 := WR.le
  go_wp2
  refine bodyPost_ret (v := .tuple #[]) (by simp [results, Tryz.results119, go_sem, *]) rfl ?_
  exact ⟨rfl, WR, wkca⟩

end Go.Proofs.YtbplaekabeggkaaGreatDoor

namespace Go.Proofs.YtbplaekabeggkaaGreatDoor
open Go.RowKit

set_option maxRecDepth 100000 in
set_option maxHeartbeats 1000000 in
theorem expr_24 {w : World} {bk lim : Nat} {xs y0 y1 : List (List UInt8)} {v : Value} {t : T} (n : Nat) (nm ty : ByteArray) (at_ : Int) (a : Option Addr) (m cap : Nat) (n1 : 1 ≤ n) (n2 : n ≤ 16) (hN : IsN w v t) (hW : Wr w bk lim xs) (hx : xs.length + y0.length + y1.length + 3 ≤ 100000)
    (h0 : ∀ v' w', IsN w' v' (t.kids[0]?.getD zeroT) → Wr w' bk lim (xs ++ [kLpar]) → Calls Tryz.prog 52 #[ptrV bk, v'] w' (PostA w' bk lim (xs ++ [kLpar] ++ y0)))
    (h1 : ∀ v' w', IsN w' v' (t.kids[1]?.getD zeroT) → Wr w' bk lim (xs ++ [kLpar] ++ y0 ++ [signStr n]) → Calls Tryz.prog 52 #[ptrV bk, v'] w' (PostA w' bk lim (xs ++ [kLpar] ++ y0 ++ [signStr n] ++ y1))) :
    Calls Tryz.prog 87 #[ptrV bk, v, .agg #[.int .i64 24, .string nm, .string ty, .int .i64 n, .int .i64 at_, .slice a m cap]] w (PostA w bk lim (xs ++ [kLpar] ++ y0 ++ [signStr n] ++ y1 ++ [kRpar])) := by
  obtain ⟨p, rfl⟩ := hN.shape
  have WR := hW
  have N := hN
  have X : Loc ((w.alloc (.cells #[.pointer p] 30)).alloc (.cells #[.int .i64 24, .string nm, .string ty, .int .i64 n, .int .i64 at_, .slice a m cap] 108)) w.heap.size (.pointer p) 30 := (Loc.new _ _ _).alloc _
  have K := Wk.refl lim w
  have D : Blk ((w.alloc (.cells #[.pointer p] 30)).alloc (.cells #[.int .i64 24, .string nm, .string ty, .int .i64 n, .int .i64 at_, .slice a m cap] 108)) (w.heap.size + 1) #[.int .i64 24, .string nm, .string ty, .int .i64 n, .int .i64 at_, .slice a m cap] 108 := Blk.new' _ _ _ (by simp)
  clear hW hN
  have WRl_w := WR.le
  replace WR : Wr (((w.alloc (.cells #[.pointer p] 30)).alloc (.cells #[.int .i64 24, .string nm, .string ty, .int .i64 n, .int .i64 at_, .slice a m cap] 108))) bk lim xs := wrca
  replace WRl := WR.lt
  have WRl_walloccellspointerp30alloccellsinti6424stringnmstringtyinti64ninti64atsliceamcap108 := WR.le
  replace N : IsN (((w.alloc (.cells #[.pointer p] 30)).alloc (.cells #[.int .i64 24, .string nm, .string ty, .int .i64 n, .int .i64 at_, .slice a m cap] 108))) (.agg #[.pointer p]) t := inna
  replace X : Loc (((w.alloc (.cells #[.pointer p] 30)).alloc (.cells #[.int .i64 24, .string nm, .string ty, .int .i64 n, .int .i64 at_, .slice a m cap] 108))) w.heap.size (.pointer p) 30 := loca
  replace Xc := X.cell
  replace Xl := X.lt
  have Xl_walloccellspointerp30alloccellsinti6424stringnmstringtyinti64ninti64atsliceamcap108 := Xl
  replace Xf := X.frozen
  replace D : Blk (((w.alloc (.cells #[.pointer p] 30)).alloc (.cells #[.int .i64 24, .string nm, .string ty, .int .i64 n, .int .i64 at_, .slice a m cap] 108))) (w.heap.size + 1) #[.int .i64 24, .string nm, .string ty, .int .i64 n, .int .i64 at_, .slice a m cap] 108 := bka
  replace Dl := D.lt
  replace D0 := D.six.1
  replace D1 := D.six.2.1
  replace D2 := D.six.2.2.1
  replace D3 := D.six.2.2.2.1
  replace D4 := D.six.2.2.2.2.1
  replace D5 := D.six.2.2.2.2.2
  replace Df := D.frozen
  replace K : Wk lim w (((w.alloc (.cells #[.pointer p] 30)).alloc (.cells #[.int .i64 24, .string nm, .string ty, .int .i64 n, .int .i64 at_, .slice a m cap] 108))) := wkca
  go_enter Tryz.func87, Tryz.ntmps87
  go_wp2_with fail
  refine wp_region_U (S := (fun V => V.cell? ⟨w.heap.size, 0, none⟩ = some (.pointer p) ∧ V.cell? ⟨w.heap.size + 1, 3, none⟩ = some (.int .i64 n))) (F := []) (by kernel_rfl) (by (first | (simp; done) | (simp [World.cell?_setCell_other, World.cell?_alloc_lt, *]; done))) (fun hHeld => ?_)
  replace WR : Wr (((w.alloc (.cells #[.pointer p] 30)).alloc (.cells #[.int .i64 24, .string nm, .string ty, .int .i64 n, .int .i64 at_, .slice a m cap] 108)).drew) bk lim xs := wrca
  replace WRl := WR.lt
  have WRl_walloccellspointerp30alloccellsinti6424stringnmstringtyinti64ninti64atsliceamcap108drew := WR.le
  replace N : IsN (((w.alloc (.cells #[.pointer p] 30)).alloc (.cells #[.int .i64 24, .string nm, .string ty, .int .i64 n, .int .i64 at_, .slice a m cap] 108)).drew) (.agg #[.pointer p]) t := inna
  replace X : Loc (((w.alloc (.cells #[.pointer p] 30)).alloc (.cells #[.int .i64 24, .string nm, .string ty, .int .i64 n, .int .i64 at_, .slice a m cap] 108)).drew) w.heap.size (.pointer p) 30 := loca
  replace Xc := X.cell
  replace Xl := X.lt
  have Xl_walloccellspointerp30alloccellsinti6424stringnmstringtyinti64ninti64atsliceamcap108drew := Xl
  replace Xf := X.frozen
  replace D : Blk (((w.alloc (.cells #[.pointer p] 30)).alloc (.cells #[.int .i64 24, .string nm, .string ty, .int .i64 n, .int .i64 at_, .slice a m cap] 108)).drew) (w.heap.size + 1) #[.int .i64 24, .string nm, .string ty, .int .i64 n, .int .i64 at_, .slice a m cap] 108 := bka
  replace Dl := D.lt
  replace D0 := D.six.1
  replace D1 := D.six.2.1
  replace D2 := D.six.2.2.1
  replace D3 := D.six.2.2.2.1
  replace D4 := D.six.2.2.2.2.1
  replace D5 := D.six.2.2.2.2.2
  replace Df := D.frozen
  replace K : Wk lim w (((w.alloc (.cells #[.pointer p] 30)).alloc (.cells #[.int .i64 24, .string nm, .string ty, .int .i64 n, .int .i64 at_, .slice a m cap] 108)).drew) := wkca
  refine tkU 0 (v := ?_) rfl (by kernel_rfl) (fun _ _ _ h => h) (Or.inl ⟨by rfl, ?_⟩) (by assumption) ?_
  rotate_left
  · intro w hSw; (try dsimp only at hSw); go_simp; try with_reducible rfl
  try simp only [Act.put, pz]
  refine tkU 1 (v := ?_) rfl (by kernel_rfl) (fun _ _ _ h => h) (Or.inl ⟨by rfl, ?_⟩) (by assumption) ?_
  rotate_left
  · intro w hSw; (try dsimp only at hSw); go_simp; try with_reducible rfl
  try simp only [Act.put, pz]
  refine tkU 2 (v := ?_) rfl (by kernel_rfl) (fun _ _ _ h => h) (Or.inl ⟨by rfl, ?_⟩) (by assumption) ?_
  rotate_left
  · intro w hSw; (try dsimp only at hSw); go_simp; try with_reducible rfl
  try simp only [Act.put, pz]
  refine tkU 3 (v := ?_) rfl (by kernel_rfl) (fun _ _ _ h => h) (Or.inl ⟨by rfl, ?_⟩) (by assumption) ?_
  rotate_left
  · intro w hSw; (try dsimp only at hSw); go_simp; try with_reducible rfl
  try simp only [Act.put, pz]
  refine wpAnyU_one (i := 4) (by kernel_rfl) rfl rfl (fun K1 hK => ?_)
  go_simp
  refine (sign_c _ n n1 n2).mono ?_
  rintro e w2 ⟨rfl, hk2⟩
  have z2 := hk2.size
  try simp at z2
  replace WR : Wr w2 bk lim xs := wrca
  replace WRl := WR.lt
  have WRl_w2 := WR.le
  replace N : IsN w2 (.agg #[.pointer p]) t := inna
  replace X : Loc w2 w.heap.size (.pointer p) 30 := loca
  replace Xc := X.cell
  replace Xl := X.lt
  have Xl_w2 := Xl
  replace Xf := X.frozen
  replace D : Blk w2 (w.heap.size + 1) #[.int .i64 24, .string nm, .string ty, .int .i64 n, .int .i64 at_, .slice a m cap] 108 := bka
  replace Dl := D.lt
  replace D0 := D.six.1
  replace D1 := D.six.2.1
  replace D2 := D.six.2.2.1
  replace D3 := D.six.2.2.2.1
  replace D4 := D.six.2.2.2.2.1
  replace D5 := D.six.2.2.2.2.2
  replace Df := D.frozen
  replace K : Wk lim w w2 := wkca
  clear hk2
  try dsimp only
  try simp only [sz3]
  refine hK.out _ _ ?_ ?_
  · intro _; exact ⟨Xc, D3⟩
  clear hK K1
  try simp only [Act.put, pz]
  have H := two_c (signStr n) N WR hx h0 h1
  refine wpAnyU_one (i := 5) (by kernel_rfl) rfl rfl (fun K1 hK => ?_)
  go_simp
  refine H.mono ?_
  clear H h0 h1
  rintro e w3 ⟨rfl, WR3, hw3⟩
  have z3 := hw3.size
  clear WR
  replace N : IsN w3 (.agg #[.pointer p]) t := inna
  replace X : Loc w3 w.heap.size (.pointer p) 30 := loca
  replace Xc := X.cell
  replace Xl := X.lt
  have Xl_w3 := Xl
  replace Xf := X.frozen
  replace D : Blk w3 (w.heap.size + 1) #[.int .i64 24, .string nm, .string ty, .int .i64 n, .int .i64 at_, .slice a m cap] 108 := bka
  replace Dl := D.lt
  replace D0 := D.six.1
  replace D1 := D.six.2.1
  replace D2 := D.six.2.2.1
  replace D3 := D.six.2.2.2.1
  replace D4 := D.six.2.2.2.2.1
  replace D5 := D.six.2.2.2.2.2
  replace Df := D.frozen
  replace K : Wk lim w w3 := wkca
  clear hw3
  try dsimp only
  try simp only [sz3]
  refine hK.out _ _ ?_ ?_
  · intro _; exact ⟨Xc, D3⟩
  clear hK K1
  try simp only [Act.put, pz]
  refine wpAnyU_done (by kernel_rfl) ?_ _
  go_wp2
  refine bodyPost_ret (v := .tuple #[]) (by simp [results, Tryz.results87, go_sem, *]) rfl ?_
  exact ⟨rfl, WR3, wkca⟩

end Go.Proofs.YtbplaekabeggkaaGreatDoor

/-
  OWN: a region that draws, with guards: the one operation that may come up is wanted, or skipped.
-/
namespace Go.Proofs.YtbplaekabeggkaaGreatDoor
open Go
section
variable {P : Program} {ops : Array Oper} {Q : Exit → Act → World → Prop} {md : Region.Mode} {S : World → Prop} {F : List Nat}

theorem wpAnyU_oneG {i : Nat} {o : Oper} {fuel : Nat} {listed : Array Bool} {a : Act} {w : World} (hr : Region.ready md ops listed = [i]) (ho : ops[i]? = some o) (hg : Region.wanted o (yielded ops a.tmps) = true)
    (h : ∀ K' : Act → World → Prop, Shut (∀ a w, (F.contains i = false → S w) → wpAnyU P md ops Q S F fuel (listed.setIfInBounds i true) a w → K' a w) → Oper.wp P o a w K' Q) :
    wpAnyU P md ops Q S F (fuel + 1) listed a w :=
  ⟨fun h0 => (by rw [hr] at h0; cases h0), fun j hj => by
    rw [hr] at hj
    obtain rfl := List.mem_singleton.1 hj
    refine wpOp_step ho (fun K' hK => ?_)
    rw [if_pos hg]
    exact h K' (fun a w h1 h2 => hK a w ⟨h1, h2⟩)⟩

theorem wpAnyU_skip {i : Nat} {o : Oper} {fuel : Nat} {listed : Array Bool} {a : Act} {w : World} (hr : Region.ready md ops listed = [i]) (ho : ops[i]? = some o) (hg : Region.wanted o (yielded ops a.tmps) = false)
    (hS : S w) (h : wpAnyU P md ops Q S F fuel (listed.setIfInBounds i true) (a.put o.dst undef) w) :
    wpAnyU P md ops Q S F (fuel + 1) listed a w :=
  ⟨fun h0 => (by rw [hr] at h0; cases h0), fun j hj => by
    rw [hr] at hj
    obtain rfl := List.mem_singleton.1 hj
    unfold wpOp
    rw [ho]
    dsimp only
    rw [if_neg (by rw [hg]; simp)]
    exact ⟨fun _ => hS, h⟩⟩

end
end Go.Proofs.YtbplaekabeggkaaGreatDoor

namespace Go.Proofs.YtbplaekabeggkaaGreatDoor
open Go.RowKit

set_option maxRecDepth 100000 in
set_option maxHeartbeats 2000000 in
theorem alike_1 (t u : T) (va vb : Value) (w : World) (hA : IsN w va t) (hB : IsN w vb u) (h1 : ¬ t.op = u.op) :
    Calls Tryz.prog 12 #[va, vb] w fun e w' => e = .returned (.bool false) ∧ Kp w.heap.size [] w w' := by
  obtain ⟨pa, rfl⟩ := hA.shape
  obtain ⟨pb, rfl⟩ := hB.shape
  have A := hA
  have C := hB
  have K := Kp.refl w.heap.size [] w
  clear hA hB
  have X : Loc ((w.alloc (.cells #[.pointer pa] 30)).alloc (.cells #[.pointer pb] 30)) w.heap.size (.pointer pa) 30 := loca
  have Y : Loc ((w.alloc (.cells #[.pointer pa] 30)).alloc (.cells #[.pointer pb] 30)) (w.heap.size + 1) (.pointer pb) 30 := loca
  replace A : IsN (((w.alloc (.cells #[.pointer pa] 30)).alloc (.cells #[.pointer pb] 30))) (.agg #[.pointer pa]) t := inna
  replace C : IsN (((w.alloc (.cells #[.pointer pa] 30)).alloc (.cells #[.pointer pb] 30))) (.agg #[.pointer pb]) u := inna
  replace X : Loc (((w.alloc (.cells #[.pointer pa] 30)).alloc (.cells #[.pointer pb] 30))) w.heap.size (.pointer pa) 30 := loca
  replace Xc := X.cell
  replace Xl := X.lt
  have Xl_walloccellspointerpa30alloccellspointerpb30 := Xl
  replace Xf := X.frozen
  replace Y : Loc (((w.alloc (.cells #[.pointer pa] 30)).alloc (.cells #[.pointer pb] 30))) (w.heap.size + 1) (.pointer pb) 30 := loca
  replace Yc := Y.cell
  replace Yl := Y.lt
  have Yl_walloccellspointerpa30alloccellspointerpb30 := Yl
  replace Yf := Y.frozen
  replace K : Kp w.heap.size [] w (((w.alloc (.cells #[.pointer pa] 30)).alloc (.cells #[.pointer pb] 30))) := kpa
  replace Kz := K.size
  have Kz_walloccellspointerpa30alloccellspointerpb30 := Kz
  have hb1 : (t.op == u.op) = false := by simp; omega
  have hn1 : (t.op != u.op) = true := by simp only [bne, hb1, Bool.not_false]
  go_enter Tryz.func12, Tryz.ntmps12
  go_wp2_with fail
  refine wp_region_U (S := (fun V => V.cell? ⟨w.heap.size, 0, none⟩ = some (.pointer pa) ∧ V.cell? ⟨w.heap.size + 1, 0, none⟩ = some (.pointer pb))) (F := []) (by kernel_rfl) (by (first | (simp; done) | (simp [World.cell?_setCell_other, World.cell?_alloc_lt, *]; done))) (fun hHeld => ?_)
  replace A : IsN (((w.alloc (.cells #[.pointer pa] 30)).alloc (.cells #[.pointer pb] 30)).drew) (.agg #[.pointer pa]) t := inna
  replace C : IsN (((w.alloc (.cells #[.pointer pa] 30)).alloc (.cells #[.pointer pb] 30)).drew) (.agg #[.pointer pb]) u := inna
  replace X : Loc (((w.alloc (.cells #[.pointer pa] 30)).alloc (.cells #[.pointer pb] 30)).drew) w.heap.size (.pointer pa) 30 := loca
  replace Xc := X.cell
  replace Xl := X.lt
  have Xl_walloccellspointerpa30alloccellspointerpb30drew := Xl
  replace Xf := X.frozen
  replace Y : Loc (((w.alloc (.cells #[.pointer pa] 30)).alloc (.cells #[.pointer pb] 30)).drew) (w.heap.size + 1) (.pointer pb) 30 := loca
  replace Yc := Y.cell
  replace Yl := Y.lt
  have Yl_walloccellspointerpa30alloccellspointerpb30drew := Yl
  replace Yf := Y.frozen
  replace K : Kp w.heap.size [] w (((w.alloc (.cells #[.pointer pa] 30)).alloc (.cells #[.pointer pb] 30)).drew) := kpa
  replace Kz := K.size
  have Kz_walloccellspointerpa30alloccellspointerpb30drew := Kz
  refine tkU 0 (v := ?_) rfl (by kernel_rfl) (fun _ _ _ h => h) (Or.inl ⟨by rfl, ?_⟩) (by assumption) ?_
  rotate_left
  · intro w hSw; (try dsimp only at hSw); go_simp; try with_reducible rfl
  try simp only [Act.put, pz]
  refine tkU 2 (v := ?_) rfl (by kernel_rfl) (fun _ _ _ h => h) (Or.inl ⟨by rfl, ?_⟩) (by assumption) ?_
  rotate_left
  · intro w hSw; (try dsimp only at hSw); go_simp; try with_reducible rfl
  try simp only [Act.put, pz]
  refine wpAnyU_one (i := 1) (by kernel_rfl) rfl rfl (fun K1 hK => ?_)
  go_simp
  refine (op_c A).mono ?_
  rintro e w3 ⟨rfl, hk3⟩
  have z3 := hk3.size
  try simp at z3
  replace A : IsN w3 (.agg #[.pointer pa]) t := inna
  replace C : IsN w3 (.agg #[.pointer pb]) u := inna
  replace X : Loc w3 w.heap.size (.pointer pa) 30 := loca
  replace Xc := X.cell
  replace Xl := X.lt
  have Xl_w3 := Xl
  replace Xf := X.frozen
  replace Y : Loc w3 (w.heap.size + 1) (.pointer pb) 30 := loca
  replace Yc := Y.cell
  replace Yl := Y.lt
  have Yl_w3 := Yl
  replace Yf := Y.frozen
  replace K : Kp w.heap.size [] w w3 := kpa
  replace Kz := K.size
  have Kz_w3 := Kz
  clear hk3
  try dsimp only
  try simp only [sz3]
  refine hK.out _ _ ?_ ?_
  · intro _; exact ⟨Xc, Yc⟩
  clear hK K1
  try simp only [Act.put, pz]
  refine wpAnyU_one (i := 3) (by kernel_rfl) rfl rfl (fun K1 hK => ?_)
  go_simp
  refine (op_c C).mono ?_
  rintro e w4 ⟨rfl, hk4⟩
  have z4 := hk4.size
  try simp at z4
  replace A : IsN w4 (.agg #[.pointer pa]) t := inna
  replace C : IsN w4 (.agg #[.pointer pb]) u := inna
  replace X : Loc w4 w.heap.size (.pointer pa) 30 := loca
  replace Xc := X.cell
  replace Xl := X.lt
  have Xl_w4 := Xl
  replace Xf := X.frozen
  replace Y : Loc w4 (w.heap.size + 1) (.pointer pb) 30 := loca
  replace Yc := Y.cell
  replace Yl := Y.lt
  have Yl_w4 := Yl
  replace Yf := Y.frozen
  replace K : Kp w.heap.size [] w w4 := kpa
  replace Kz := K.size
  have Kz_w4 := Kz
  clear hk4
  try dsimp only
  try simp only [sz3]
  refine hK.out _ _ ?_ ?_
  · intro _; exact ⟨Xc, Yc⟩
  clear hK K1
  try simp only [Act.put, pz]
  refine wpAnyU_one (i := 4) (by kernel_rfl) rfl rfl (fun K1 hK => ?_)
  go_simp
  try dsimp only
  try simp only [sz3]
  refine hK.out _ _ ?_ ?_
  · intro _; exact ⟨Xc, Yc⟩
  clear hK K1
  try simp only [Act.put, pz]
  refine wpAnyU_one (i := 5) (by kernel_rfl) rfl rfl (fun K1 hK => ?_)
  go_simp
  try dsimp only
  try simp only [sz3]
  refine hK.out _ _ ?_ ?_
  · intro _; exact ⟨Xc, Yc⟩
  clear hK K1
  try simp only [Act.put, pz]
  have hS2 := And.intro Xc Yc
  refine tkU 6 (v := undef) rfl (by kernel_rfl) (fun _ _ _ h => h) (Or.inr ⟨by rfl, rfl⟩) (by assumption) ?_
  try simp only [Act.put, pz]
  refine tkU 8 (v := undef) rfl (by kernel_rfl) (fun _ _ _ h => h) (Or.inr ⟨by rfl, rfl⟩) (by assumption) ?_
  try simp only [Act.put, pz]
  refine wpAnyU_skip (i := 7) (by kernel_rfl) rfl (by rfl) (by assumption) ?_
  try simp only [Act.put, pz]
  refine wpAnyU_skip (i := 9) (by kernel_rfl) rfl (by rfl) (by assumption) ?_
  try simp only [Act.put, pz]
  refine wpAnyU_skip (i := 10) (by kernel_rfl) rfl (by rfl) (by assumption) ?_
  try simp only [Act.put, pz]
  refine wpAnyU_one (i := 11) (by kernel_rfl) rfl rfl (fun K1 hK => ?_)
  go_simp
  try dsimp only
  try simp only [sz3]
  refine hK.out _ _ ?_ ?_
  · intro _; exact ⟨Xc, Yc⟩
  clear hK K1
  try simp only [Act.put, pz]
  refine wpAnyU_one (i := 12) (by kernel_rfl) rfl rfl (fun K1 hK => ?_)
  go_simp
  try dsimp only
  try simp only [sz3]
  refine hK.out _ _ ?_ ?_
  · intro _; exact ⟨Xc, Yc⟩
  clear hK K1
  try simp only [Act.put, pz]
  have hS3 := And.intro Xc Yc
  refine tkU 13 (v := undef) rfl (by kernel_rfl) (fun _ _ _ h => h) (Or.inr ⟨by rfl, rfl⟩) (by assumption) ?_
  try simp only [Act.put, pz]
  refine tkU 15 (v := undef) rfl (by kernel_rfl) (fun _ _ _ h => h) (Or.inr ⟨by rfl, rfl⟩) (by assumption) ?_
  try simp only [Act.put, pz]
  refine wpAnyU_skip (i := 14) (by kernel_rfl) rfl (by rfl) (by assumption) ?_
  try simp only [Act.put, pz]
  refine wpAnyU_skip (i := 16) (by kernel_rfl) rfl (by rfl) (by assumption) ?_
  try simp only [Act.put, pz]
  refine wpAnyU_skip (i := 17) (by kernel_rfl) rfl (by rfl) (by assumption) ?_
  try simp only [Act.put, pz]
  refine wpAnyU_one (i := 18) (by kernel_rfl) rfl rfl (fun K1 hK => ?_)
  go_simp
  try dsimp only
  try simp only [sz3]
  refine hK.out _ _ ?_ ?_
  · intro _; exact ⟨Xc, Yc⟩
  clear hK K1
  try simp only [Act.put, pz]
  refine wpAnyU_one (i := 19) (by kernel_rfl) rfl rfl (fun K1 hK => ?_)
  go_simp
  try dsimp only
  try simp only [sz3]
  refine hK.out _ _ ?_ ?_
  · intro _; exact ⟨Xc, Yc⟩
  clear hK K1
  try simp only [Act.put, pz]
  have hS4 := And.intro Xc Yc
  refine tkU 20 (v := undef) rfl (by kernel_rfl) (fun _ _ _ h => h) (Or.inr ⟨by rfl, rfl⟩) (by assumption) ?_
  try simp only [Act.put, pz]
  refine tkU 22 (v := undef) rfl (by kernel_rfl) (fun _ _ _ h => h) (Or.inr ⟨by rfl, rfl⟩) (by assumption) ?_
  try simp only [Act.put, pz]
  refine wpAnyU_skip (i := 21) (by kernel_rfl) rfl (by rfl) (by assumption) ?_
  try simp only [Act.put, pz]
  refine wpAnyU_skip (i := 23) (by kernel_rfl) rfl (by rfl) (by assumption) ?_
  try simp only [Act.put, pz]
  refine wpAnyU_skip (i := 24) (by kernel_rfl) rfl (by rfl) (by assumption) ?_
  try simp only [Act.put, pz]
  refine wpAnyU_one (i := 25) (by kernel_rfl) rfl rfl (fun K1 hK => ?_)
  go_simp
  try dsimp only
  try simp only [sz3]
  refine hK.out _ _ ?_ ?_
  · intro _; exact ⟨Xc, Yc⟩
  clear hK K1
  try simp only [Act.put, pz]
  refine wpAnyU_one (i := 26) (by kernel_rfl) rfl rfl (fun K1 hK => ?_)
  go_simp
  try dsimp only
  try simp only [sz3]
  refine hK.out _ _ ?_ ?_
  · intro _; exact ⟨Xc, Yc⟩
  clear hK K1
  try simp only [Act.put, pz]
  have hS5 := And.intro Xc Yc
  refine tkU 27 (v := undef) rfl (by kernel_rfl) (fun _ _ _ h => h) (Or.inr ⟨by rfl, rfl⟩) (by assumption) ?_
  try simp only [Act.put, pz]
  refine tkU 29 (v := undef) rfl (by kernel_rfl) (fun _ _ _ h => h) (Or.inr ⟨by rfl, rfl⟩) (by assumption) ?_
  try simp only [Act.put, pz]
  refine wpAnyU_skip (i := 28) (by kernel_rfl) rfl (by rfl) (by assumption) ?_
  try simp only [Act.put, pz]
  refine wpAnyU_skip (i := 30) (by kernel_rfl) rfl (by rfl) (by assumption) ?_
  try simp only [Act.put, pz]
  refine wpAnyU_skip (i := 31) (by kernel_rfl) rfl (by rfl) (by assumption) ?_
  try simp only [Act.put, pz]
  refine wpAnyU_one (i := 32) (by kernel_rfl) rfl rfl (fun K1 hK => ?_)
  go_simp
  try dsimp only
  try simp only [sz3]
  refine hK.out _ _ ?_ ?_
  · intro _; exact ⟨Xc, Yc⟩
  clear hK K1
  try simp only [Act.put, pz]
  refine wpAnyU_done (by kernel_rfl) ?_ _
  go_wp2
  go_ret
  exact ⟨rfl, kpa⟩

set_option maxRecDepth 100000 in
set_option maxHeartbeats 2000000 in
theorem alike_2 (t u : T) (va vb : Value) (w : World) (hA : IsN w va t) (hB : IsN w vb u) (h1 : t.op = u.op) (h2 : ¬ t.name = u.name) :
    Calls Tryz.prog 12 #[va, vb] w fun e w' => e = .returned (.bool false) ∧ Kp w.heap.size [] w w' := by
  obtain ⟨pa, rfl⟩ := hA.shape
  obtain ⟨pb, rfl⟩ := hB.shape
  have A := hA
  have C := hB
  have K := Kp.refl w.heap.size [] w
  clear hA hB
  have X : Loc ((w.alloc (.cells #[.pointer pa] 30)).alloc (.cells #[.pointer pb] 30)) w.heap.size (.pointer pa) 30 := loca
  have Y : Loc ((w.alloc (.cells #[.pointer pa] 30)).alloc (.cells #[.pointer pb] 30)) (w.heap.size + 1) (.pointer pb) 30 := loca
  replace A : IsN (((w.alloc (.cells #[.pointer pa] 30)).alloc (.cells #[.pointer pb] 30))) (.agg #[.pointer pa]) t := inna
  replace C : IsN (((w.alloc (.cells #[.pointer pa] 30)).alloc (.cells #[.pointer pb] 30))) (.agg #[.pointer pb]) u := inna
  replace X : Loc (((w.alloc (.cells #[.pointer pa] 30)).alloc (.cells #[.pointer pb] 30))) w.heap.size (.pointer pa) 30 := loca
  replace Xc := X.cell
  replace Xl := X.lt
  have Xl_walloccellspointerpa30alloccellspointerpb30 := Xl
  replace Xf := X.frozen
  replace Y : Loc (((w.alloc (.cells #[.pointer pa] 30)).alloc (.cells #[.pointer pb] 30))) (w.heap.size + 1) (.pointer pb) 30 := loca
  replace Yc := Y.cell
  replace Yl := Y.lt
  have Yl_walloccellspointerpa30alloccellspointerpb30 := Yl
  replace Yf := Y.frozen
  replace K : Kp w.heap.size [] w (((w.alloc (.cells #[.pointer pa] 30)).alloc (.cells #[.pointer pb] 30))) := kpa
  replace Kz := K.size
  have Kz_walloccellspointerpa30alloccellspointerpb30 := Kz
  have hb1 : (t.op == u.op) = true := by simp [h1]
  have hn1 : (t.op != u.op) = false := by simp [h1]
  have hb2 : (t.name == u.name) = false := by simpa using h2
  have hn2 : (t.name != u.name) = true := by simp only [bne, hb2, Bool.not_false]
  go_enter Tryz.func12, Tryz.ntmps12
  go_wp2_with fail
  refine wp_region_U (S := (fun V => V.cell? ⟨w.heap.size, 0, none⟩ = some (.pointer pa) ∧ V.cell? ⟨w.heap.size + 1, 0, none⟩ = some (.pointer pb))) (F := []) (by kernel_rfl) (by (first | (simp; done) | (simp [World.cell?_setCell_other, World.cell?_alloc_lt, *]; done))) (fun hHeld => ?_)
  replace A : IsN (((w.alloc (.cells #[.pointer pa] 30)).alloc (.cells #[.pointer pb] 30)).drew) (.agg #[.pointer pa]) t := inna
  replace C : IsN (((w.alloc (.cells #[.pointer pa] 30)).alloc (.cells #[.pointer pb] 30)).drew) (.agg #[.pointer pb]) u := inna
  replace X : Loc (((w.alloc (.cells #[.pointer pa] 30)).alloc (.cells #[.pointer pb] 30)).drew) w.heap.size (.pointer pa) 30 := loca
  replace Xc := X.cell
  replace Xl := X.lt
  have Xl_walloccellspointerpa30alloccellspointerpb30drew := Xl
  replace Xf := X.frozen
  replace Y : Loc (((w.alloc (.cells #[.pointer pa] 30)).alloc (.cells #[.pointer pb] 30)).drew) (w.heap.size + 1) (.pointer pb) 30 := loca
  replace Yc := Y.cell
  replace Yl := Y.lt
  have Yl_walloccellspointerpa30alloccellspointerpb30drew := Yl
  replace Yf := Y.frozen
  replace K : Kp w.heap.size [] w (((w.alloc (.cells #[.pointer pa] 30)).alloc (.cells #[.pointer pb] 30)).drew) := kpa
  replace Kz := K.size
  have Kz_walloccellspointerpa30alloccellspointerpb30drew := Kz
  refine tkU 0 (v := ?_) rfl (by kernel_rfl) (fun _ _ _ h => h) (Or.inl ⟨by rfl, ?_⟩) (by assumption) ?_
  rotate_left
  · intro w hSw; (try dsimp only at hSw); go_simp; try with_reducible rfl
  try simp only [Act.put, pz]
  refine tkU 2 (v := ?_) rfl (by kernel_rfl) (fun _ _ _ h => h) (Or.inl ⟨by rfl, ?_⟩) (by assumption) ?_
  rotate_left
  · intro w hSw; (try dsimp only at hSw); go_simp; try with_reducible rfl
  try simp only [Act.put, pz]
  refine wpAnyU_one (i := 1) (by kernel_rfl) rfl rfl (fun K1 hK => ?_)
  go_simp
  refine (op_c A).mono ?_
  rintro e w3 ⟨rfl, hk3⟩
  have z3 := hk3.size
  try simp at z3
  replace A : IsN w3 (.agg #[.pointer pa]) t := inna
  replace C : IsN w3 (.agg #[.pointer pb]) u := inna
  replace X : Loc w3 w.heap.size (.pointer pa) 30 := loca
  replace Xc := X.cell
  replace Xl := X.lt
  have Xl_w3 := Xl
  replace Xf := X.frozen
  replace Y : Loc w3 (w.heap.size + 1) (.pointer pb) 30 := loca
  replace Yc := Y.cell
  replace Yl := Y.lt
  have Yl_w3 := Yl
  replace Yf := Y.frozen
  replace K : Kp w.heap.size [] w w3 := kpa
  replace Kz := K.size
  have Kz_w3 := Kz
  clear hk3
  try dsimp only
  try simp only [sz3]
  refine hK.out _ _ ?_ ?_
  · intro _; exact ⟨Xc, Yc⟩
  clear hK K1
  try simp only [Act.put, pz]
  refine wpAnyU_one (i := 3) (by kernel_rfl) rfl rfl (fun K1 hK => ?_)
  go_simp
  refine (op_c C).mono ?_
  rintro e w4 ⟨rfl, hk4⟩
  have z4 := hk4.size
  try simp at z4
  replace A : IsN w4 (.agg #[.pointer pa]) t := inna
  replace C : IsN w4 (.agg #[.pointer pb]) u := inna
  replace X : Loc w4 w.heap.size (.pointer pa) 30 := loca
  replace Xc := X.cell
  replace Xl := X.lt
  have Xl_w4 := Xl
  replace Xf := X.frozen
  replace Y : Loc w4 (w.heap.size + 1) (.pointer pb) 30 := loca
  replace Yc := Y.cell
  replace Yl := Y.lt
  have Yl_w4 := Yl
  replace Yf := Y.frozen
  replace K : Kp w.heap.size [] w w4 := kpa
  replace Kz := K.size
  have Kz_w4 := Kz
  clear hk4
  try dsimp only
  try simp only [sz3]
  refine hK.out _ _ ?_ ?_
  · intro _; exact ⟨Xc, Yc⟩
  clear hK K1
  try simp only [Act.put, pz]
  refine wpAnyU_one (i := 4) (by kernel_rfl) rfl rfl (fun K1 hK => ?_)
  go_simp
  try dsimp only
  try simp only [sz3]
  refine hK.out _ _ ?_ ?_
  · intro _; exact ⟨Xc, Yc⟩
  clear hK K1
  try simp only [Act.put, pz]
  refine wpAnyU_one (i := 5) (by kernel_rfl) rfl rfl (fun K1 hK => ?_)
  go_simp
  try dsimp only
  try simp only [sz3]
  refine hK.out _ _ ?_ ?_
  · intro _; exact ⟨Xc, Yc⟩
  clear hK K1
  try simp only [Act.put, pz]
  have hS2 := And.intro Xc Yc
  refine tkU 6 (v := ?_) rfl (by kernel_rfl) (fun _ _ _ h => h) (Or.inl ⟨by rfl, ?_⟩) (by assumption) ?_
  rotate_left
  · intro w hSw; (try dsimp only at hSw); go_simp; try with_reducible rfl
  try simp only [Act.put, pz]
  refine tkU 8 (v := ?_) rfl (by kernel_rfl) (fun _ _ _ h => h) (Or.inl ⟨by rfl, ?_⟩) (by assumption) ?_
  rotate_left
  · intro w hSw; (try dsimp only at hSw); go_simp; try with_reducible rfl
  try simp only [Act.put, pz]
  refine wpAnyU_oneG (i := 7) (by kernel_rfl) rfl (by rfl) (fun K1 hK => ?_)
  go_simp
  refine (name_c A).mono ?_
  rintro e w5 ⟨rfl, hk5⟩
  have z5 := hk5.size
  try simp at z5
  replace A : IsN w5 (.agg #[.pointer pa]) t := inna
  replace C : IsN w5 (.agg #[.pointer pb]) u := inna
  replace X : Loc w5 w.heap.size (.pointer pa) 30 := loca
  replace Xc := X.cell
  replace Xl := X.lt
  have Xl_w5 := Xl
  replace Xf := X.frozen
  replace Y : Loc w5 (w.heap.size + 1) (.pointer pb) 30 := loca
  replace Yc := Y.cell
  replace Yl := Y.lt
  have Yl_w5 := Yl
  replace Yf := Y.frozen
  replace K : Kp w.heap.size [] w w5 := kpa
  replace Kz := K.size
  have Kz_w5 := Kz
  clear hk5
  try dsimp only
  try simp only [sz3]
  refine hK.out _ _ ?_ ?_
  · intro _; exact ⟨Xc, Yc⟩
  clear hK K1
  try simp only [Act.put, pz]
  refine wpAnyU_oneG (i := 9) (by kernel_rfl) rfl (by rfl) (fun K1 hK => ?_)
  go_simp
  refine (name_c C).mono ?_
  rintro e w6 ⟨rfl, hk6⟩
  have z6 := hk6.size
  try simp at z6
  replace A : IsN w6 (.agg #[.pointer pa]) t := inna
  replace C : IsN w6 (.agg #[.pointer pb]) u := inna
  replace X : Loc w6 w.heap.size (.pointer pa) 30 := loca
  replace Xc := X.cell
  replace Xl := X.lt
  have Xl_w6 := Xl
  replace Xf := X.frozen
  replace Y : Loc w6 (w.heap.size + 1) (.pointer pb) 30 := loca
  replace Yc := Y.cell
  replace Yl := Y.lt
  have Yl_w6 := Yl
  replace Yf := Y.frozen
  replace K : Kp w.heap.size [] w w6 := kpa
  replace Kz := K.size
  have Kz_w6 := Kz
  clear hk6
  try dsimp only
  try simp only [sz3]
  refine hK.out _ _ ?_ ?_
  · intro _; exact ⟨Xc, Yc⟩
  clear hK K1
  try simp only [Act.put, pz]
  refine wpAnyU_oneG (i := 10) (by kernel_rfl) rfl (by rfl) (fun K1 hK => ?_)
  go_simp
  try dsimp only
  try simp only [sz3]
  refine hK.out _ _ ?_ ?_
  · intro _; exact ⟨Xc, Yc⟩
  clear hK K1
  try simp only [Act.put, pz]
  refine wpAnyU_one (i := 11) (by kernel_rfl) rfl rfl (fun K1 hK => ?_)
  go_simp
  try dsimp only
  try simp only [sz3]
  refine hK.out _ _ ?_ ?_
  · intro _; exact ⟨Xc, Yc⟩
  clear hK K1
  try simp only [Act.put, pz]
  refine wpAnyU_one (i := 12) (by kernel_rfl) rfl rfl (fun K1 hK => ?_)
  go_simp
  try dsimp only
  try simp only [sz3]
  refine hK.out _ _ ?_ ?_
  · intro _; exact ⟨Xc, Yc⟩
  clear hK K1
  try simp only [Act.put, pz]
  have hS3 := And.intro Xc Yc
  refine tkU 13 (v := undef) rfl (by kernel_rfl) (fun _ _ _ h => h) (Or.inr ⟨by rfl, rfl⟩) (by assumption) ?_
  try simp only [Act.put, pz]
  refine tkU 15 (v := undef) rfl (by kernel_rfl) (fun _ _ _ h => h) (Or.inr ⟨by rfl, rfl⟩) (by assumption) ?_
  try simp only [Act.put, pz]
  refine wpAnyU_skip (i := 14) (by kernel_rfl) rfl (by rfl) (by assumption) ?_
  try simp only [Act.put, pz]
  refine wpAnyU_skip (i := 16) (by kernel_rfl) rfl (by rfl) (by assumption) ?_
  try simp only [Act.put, pz]
  refine wpAnyU_skip (i := 17) (by kernel_rfl) rfl (by rfl) (by assumption) ?_
  try simp only [Act.put, pz]
  refine wpAnyU_one (i := 18) (by kernel_rfl) rfl rfl (fun K1 hK => ?_)
  go_simp
  try dsimp only
  try simp only [sz3]
  refine hK.out _ _ ?_ ?_
  · intro _; exact ⟨Xc, Yc⟩
  clear hK K1
  try simp only [Act.put, pz]
  refine wpAnyU_one (i := 19) (by kernel_rfl) rfl rfl (fun K1 hK => ?_)
  go_simp
  try dsimp only
  try simp only [sz3]
  refine hK.out _ _ ?_ ?_
  · intro _; exact ⟨Xc, Yc⟩
  clear hK K1
  try simp only [Act.put, pz]
  have hS4 := And.intro Xc Yc
  refine tkU 20 (v := undef) rfl (by kernel_rfl) (fun _ _ _ h => h) (Or.inr ⟨by rfl, rfl⟩) (by assumption) ?_
  try simp only [Act.put, pz]
  refine tkU 22 (v := undef) rfl (by kernel_rfl) (fun _ _ _ h => h) (Or.inr ⟨by rfl, rfl⟩) (by assumption) ?_
  try simp only [Act.put, pz]
  refine wpAnyU_skip (i := 21) (by kernel_rfl) rfl (by rfl) (by assumption) ?_
  try simp only [Act.put, pz]
  refine wpAnyU_skip (i := 23) (by kernel_rfl) rfl (by rfl) (by assumption) ?_
  try simp only [Act.put, pz]
  refine wpAnyU_skip (i := 24) (by kernel_rfl) rfl (by rfl) (by assumption) ?_
  try simp only [Act.put, pz]
  refine wpAnyU_one (i := 25) (by kernel_rfl) rfl rfl (fun K1 hK => ?_)
  go_simp
  try dsimp only
  try simp only [sz3]
  refine hK.out _ _ ?_ ?_
  · intro _; exact ⟨Xc, Yc⟩
  clear hK K1
  try simp only [Act.put, pz]
  refine wpAnyU_one (i := 26) (by kernel_rfl) rfl rfl (fun K1 hK => ?_)
  go_simp
  try dsimp only
  try simp only [sz3]
  refine hK.out _ _ ?_ ?_
  · intro _; exact ⟨Xc, Yc⟩
  clear hK K1
  try simp only [Act.put, pz]
  have hS5 := And.intro Xc Yc
  refine tkU 27 (v := undef) rfl (by kernel_rfl) (fun _ _ _ h => h) (Or.inr ⟨by rfl, rfl⟩) (by assumption) ?_
  try simp only [Act.put, pz]
  refine tkU 29 (v := undef) rfl (by kernel_rfl) (fun _ _ _ h => h) (Or.inr ⟨by rfl, rfl⟩) (by assumption) ?_
  try simp only [Act.put, pz]
  refine wpAnyU_skip (i := 28) (by kernel_rfl) rfl (by rfl) (by assumption) ?_
  try simp only [Act.put, pz]
  refine wpAnyU_skip (i := 30) (by kernel_rfl) rfl (by rfl) (by assumption) ?_
  try simp only [Act.put, pz]
  refine wpAnyU_skip (i := 31) (by kernel_rfl) rfl (by rfl) (by assumption) ?_
  try simp only [Act.put, pz]
  refine wpAnyU_one (i := 32) (by kernel_rfl) rfl rfl (fun K1 hK => ?_)
  go_simp
  try dsimp only
  try simp only [sz3]
  refine hK.out _ _ ?_ ?_
  · intro _; exact ⟨Xc, Yc⟩
  clear hK K1
  try simp only [Act.put, pz]
  refine wpAnyU_done (by kernel_rfl) ?_ _
  go_wp2
  go_ret
  exact ⟨rfl, kpa⟩

set_option maxRecDepth 100000 in
set_option maxHeartbeats 2000000 in
theorem alike_3 (t u : T) (va vb : Value) (w : World) (hA : IsN w va t) (hB : IsN w vb u) (h1 : t.op = u.op) (h2 : t.name = u.name) (h3 : ¬ t.typ = u.typ) :
    Calls Tryz.prog 12 #[va, vb] w fun e w' => e = .returned (.bool false) ∧ Kp w.heap.size [] w w' := by
  obtain ⟨pa, rfl⟩ := hA.shape
  obtain ⟨pb, rfl⟩ := hB.shape
  have A := hA
  have C := hB
  have K := Kp.refl w.heap.size [] w
  clear hA hB
  have X : Loc ((w.alloc (.cells #[.pointer pa] 30)).alloc (.cells #[.pointer pb] 30)) w.heap.size (.pointer pa) 30 := loca
  have Y : Loc ((w.alloc (.cells #[.pointer pa] 30)).alloc (.cells #[.pointer pb] 30)) (w.heap.size + 1) (.pointer pb) 30 := loca
  replace A : IsN (((w.alloc (.cells #[.pointer pa] 30)).alloc (.cells #[.pointer pb] 30))) (.agg #[.pointer pa]) t := inna
  replace C : IsN (((w.alloc (.cells #[.pointer pa] 30)).alloc (.cells #[.pointer pb] 30))) (.agg #[.pointer pb]) u := inna
  replace X : Loc (((w.alloc (.cells #[.pointer pa] 30)).alloc (.cells #[.pointer pb] 30))) w.heap.size (.pointer pa) 30 := loca
  replace Xc := X.cell
  replace Xl := X.lt
  have Xl_walloccellspointerpa30alloccellspointerpb30 := Xl
  replace Xf := X.frozen
  replace Y : Loc (((w.alloc (.cells #[.pointer pa] 30)).alloc (.cells #[.pointer pb] 30))) (w.heap.size + 1) (.pointer pb) 30 := loca
  replace Yc := Y.cell
  replace Yl := Y.lt
  have Yl_walloccellspointerpa30alloccellspointerpb30 := Yl
  replace Yf := Y.frozen
  replace K : Kp w.heap.size [] w (((w.alloc (.cells #[.pointer pa] 30)).alloc (.cells #[.pointer pb] 30))) := kpa
  replace Kz := K.size
  have Kz_walloccellspointerpa30alloccellspointerpb30 := Kz
  have hb1 : (t.op == u.op) = true := by simp [h1]
  have hn1 : (t.op != u.op) = false := by simp [h1]
  have hb2 : (t.name == u.name) = true := by simp [h2]
  have hn2 : (t.name != u.name) = false := by simp [h2]
  have hb3 : (t.typ == u.typ) = false := by simpa using h3
  have hn3 : (t.typ != u.typ) = true := by simp only [bne, hb3, Bool.not_false]
  go_enter Tryz.func12, Tryz.ntmps12
  go_wp2_with fail
  refine wp_region_U (S := (fun V => V.cell? ⟨w.heap.size, 0, none⟩ = some (.pointer pa) ∧ V.cell? ⟨w.heap.size + 1, 0, none⟩ = some (.pointer pb))) (F := []) (by kernel_rfl) (by (first | (simp; done) | (simp [World.cell?_setCell_other, World.cell?_alloc_lt, *]; done))) (fun hHeld => ?_)
  replace A : IsN (((w.alloc (.cells #[.pointer pa] 30)).alloc (.cells #[.pointer pb] 30)).drew) (.agg #[.pointer pa]) t := inna
  replace C : IsN (((w.alloc (.cells #[.pointer pa] 30)).alloc (.cells #[.pointer pb] 30)).drew) (.agg #[.pointer pb]) u := inna
  replace X : Loc (((w.alloc (.cells #[.pointer pa] 30)).alloc (.cells #[.pointer pb] 30)).drew) w.heap.size (.pointer pa) 30 := loca
  replace Xc := X.cell
  replace Xl := X.lt
  have Xl_walloccellspointerpa30alloccellspointerpb30drew := Xl
  replace Xf := X.frozen
  replace Y : Loc (((w.alloc (.cells #[.pointer pa] 30)).alloc (.cells #[.pointer pb] 30)).drew) (w.heap.size + 1) (.pointer pb) 30 := loca
  replace Yc := Y.cell
  replace Yl := Y.lt
  have Yl_walloccellspointerpa30alloccellspointerpb30drew := Yl
  replace Yf := Y.frozen
  replace K : Kp w.heap.size [] w (((w.alloc (.cells #[.pointer pa] 30)).alloc (.cells #[.pointer pb] 30)).drew) := kpa
  replace Kz := K.size
  have Kz_walloccellspointerpa30alloccellspointerpb30drew := Kz
  refine tkU 0 (v := ?_) rfl (by kernel_rfl) (fun _ _ _ h => h) (Or.inl ⟨by rfl, ?_⟩) (by assumption) ?_
  rotate_left
  · intro w hSw; (try dsimp only at hSw); go_simp; try with_reducible rfl
  try simp only [Act.put, pz]
  refine tkU 2 (v := ?_) rfl (by kernel_rfl) (fun _ _ _ h => h) (Or.inl ⟨by rfl, ?_⟩) (by assumption) ?_
  rotate_left
  · intro w hSw; (try dsimp only at hSw); go_simp; try with_reducible rfl
  try simp only [Act.put, pz]
  refine wpAnyU_one (i := 1) (by kernel_rfl) rfl rfl (fun K1 hK => ?_)
  go_simp
  refine (op_c A).mono ?_
  rintro e w3 ⟨rfl, hk3⟩
  have z3 := hk3.size
  try simp at z3
  replace A : IsN w3 (.agg #[.pointer pa]) t := inna
  replace C : IsN w3 (.agg #[.pointer pb]) u := inna
  replace X : Loc w3 w.heap.size (.pointer pa) 30 := loca
  replace Xc := X.cell
  replace Xl := X.lt
  have Xl_w3 := Xl
  replace Xf := X.frozen
  replace Y : Loc w3 (w.heap.size + 1) (.pointer pb) 30 := loca
  replace Yc := Y.cell
  replace Yl := Y.lt
  have Yl_w3 := Yl
  replace Yf := Y.frozen
  replace K : Kp w.heap.size [] w w3 := kpa
  replace Kz := K.size
  have Kz_w3 := Kz
  clear hk3
  try dsimp only
  try simp only [sz3]
  refine hK.out _ _ ?_ ?_
  · intro _; exact ⟨Xc, Yc⟩
  clear hK K1
  try simp only [Act.put, pz]
  refine wpAnyU_one (i := 3) (by kernel_rfl) rfl rfl (fun K1 hK => ?_)
  go_simp
  refine (op_c C).mono ?_
  rintro e w4 ⟨rfl, hk4⟩
  have z4 := hk4.size
  try simp at z4
  replace A : IsN w4 (.agg #[.pointer pa]) t := inna
  replace C : IsN w4 (.agg #[.pointer pb]) u := inna
  replace X : Loc w4 w.heap.size (.pointer pa) 30 := loca
  replace Xc := X.cell
  replace Xl := X.lt
  have Xl_w4 := Xl
  replace Xf := X.frozen
  replace Y : Loc w4 (w.heap.size + 1) (.pointer pb) 30 := loca
  replace Yc := Y.cell
  replace Yl := Y.lt
  have Yl_w4 := Yl
  replace Yf := Y.frozen
  replace K : Kp w.heap.size [] w w4 := kpa
  replace Kz := K.size
  have Kz_w4 := Kz
  clear hk4
  try dsimp only
  try simp only [sz3]
  refine hK.out _ _ ?_ ?_
  · intro _; exact ⟨Xc, Yc⟩
  clear hK K1
  try simp only [Act.put, pz]
  refine wpAnyU_one (i := 4) (by kernel_rfl) rfl rfl (fun K1 hK => ?_)
  go_simp
  try dsimp only
  try simp only [sz3]
  refine hK.out _ _ ?_ ?_
  · intro _; exact ⟨Xc, Yc⟩
  clear hK K1
  try simp only [Act.put, pz]
  refine wpAnyU_one (i := 5) (by kernel_rfl) rfl rfl (fun K1 hK => ?_)
  go_simp
  try dsimp only
  try simp only [sz3]
  refine hK.out _ _ ?_ ?_
  · intro _; exact ⟨Xc, Yc⟩
  clear hK K1
  try simp only [Act.put, pz]
  have hS2 := And.intro Xc Yc
  refine tkU 6 (v := ?_) rfl (by kernel_rfl) (fun _ _ _ h => h) (Or.inl ⟨by rfl, ?_⟩) (by assumption) ?_
  rotate_left
  · intro w hSw; (try dsimp only at hSw); go_simp; try with_reducible rfl
  try simp only [Act.put, pz]
  refine tkU 8 (v := ?_) rfl (by kernel_rfl) (fun _ _ _ h => h) (Or.inl ⟨by rfl, ?_⟩) (by assumption) ?_
  rotate_left
  · intro w hSw; (try dsimp only at hSw); go_simp; try with_reducible rfl
  try simp only [Act.put, pz]
  refine wpAnyU_oneG (i := 7) (by kernel_rfl) rfl (by rfl) (fun K1 hK => ?_)
  go_simp
  refine (name_c A).mono ?_
  rintro e w5 ⟨rfl, hk5⟩
  have z5 := hk5.size
  try simp at z5
  replace A : IsN w5 (.agg #[.pointer pa]) t := inna
  replace C : IsN w5 (.agg #[.pointer pb]) u := inna
  replace X : Loc w5 w.heap.size (.pointer pa) 30 := loca
  replace Xc := X.cell
  replace Xl := X.lt
  have Xl_w5 := Xl
  replace Xf := X.frozen
  replace Y : Loc w5 (w.heap.size + 1) (.pointer pb) 30 := loca
  replace Yc := Y.cell
  replace Yl := Y.lt
  have Yl_w5 := Yl
  replace Yf := Y.frozen
  replace K : Kp w.heap.size [] w w5 := kpa
  replace Kz := K.size
  have Kz_w5 := Kz
  clear hk5
  try dsimp only
  try simp only [sz3]
  refine hK.out _ _ ?_ ?_
  · intro _; exact ⟨Xc, Yc⟩
  clear hK K1
  try simp only [Act.put, pz]
  refine wpAnyU_oneG (i := 9) (by kernel_rfl) rfl (by rfl) (fun K1 hK => ?_)
  go_simp
  refine (name_c C).mono ?_
  rintro e w6 ⟨rfl, hk6⟩
  have z6 := hk6.size
  try simp at z6
  replace A : IsN w6 (.agg #[.pointer pa]) t := inna
  replace C : IsN w6 (.agg #[.pointer pb]) u := inna
  replace X : Loc w6 w.heap.size (.pointer pa) 30 := loca
  replace Xc := X.cell
  replace Xl := X.lt
  have Xl_w6 := Xl
  replace Xf := X.frozen
  replace Y : Loc w6 (w.heap.size + 1) (.pointer pb) 30 := loca
  replace Yc := Y.cell
  replace Yl := Y.lt
  have Yl_w6 := Yl
  replace Yf := Y.frozen
  replace K : Kp w.heap.size [] w w6 := kpa
  replace Kz := K.size
  have Kz_w6 := Kz
  clear hk6
  try dsimp only
  try simp only [sz3]
  refine hK.out _ _ ?_ ?_
  · intro _; exact ⟨Xc, Yc⟩
  clear hK K1
  try simp only [Act.put, pz]
  refine wpAnyU_oneG (i := 10) (by kernel_rfl) rfl (by rfl) (fun K1 hK => ?_)
  go_simp
  try dsimp only
  try simp only [sz3]
  refine hK.out _ _ ?_ ?_
  · intro _; exact ⟨Xc, Yc⟩
  clear hK K1
  try simp only [Act.put, pz]
  refine wpAnyU_one (i := 11) (by kernel_rfl) rfl rfl (fun K1 hK => ?_)
  go_simp
  try dsimp only
  try simp only [sz3]
  refine hK.out _ _ ?_ ?_
  · intro _; exact ⟨Xc, Yc⟩
  clear hK K1
  try simp only [Act.put, pz]
  refine wpAnyU_one (i := 12) (by kernel_rfl) rfl rfl (fun K1 hK => ?_)
  go_simp
  try dsimp only
  try simp only [sz3]
  refine hK.out _ _ ?_ ?_
  · intro _; exact ⟨Xc, Yc⟩
  clear hK K1
  try simp only [Act.put, pz]
  have hS3 := And.intro Xc Yc
  refine tkU 13 (v := ?_) rfl (by kernel_rfl) (fun _ _ _ h => h) (Or.inl ⟨by rfl, ?_⟩) (by assumption) ?_
  rotate_left
  · intro w hSw; (try dsimp only at hSw); go_simp; try with_reducible rfl
  try simp only [Act.put, pz]
  refine tkU 15 (v := ?_) rfl (by kernel_rfl) (fun _ _ _ h => h) (Or.inl ⟨by rfl, ?_⟩) (by assumption) ?_
  rotate_left
  · intro w hSw; (try dsimp only at hSw); go_simp; try with_reducible rfl
  try simp only [Act.put, pz]
  refine wpAnyU_oneG (i := 14) (by kernel_rfl) rfl (by rfl) (fun K1 hK => ?_)
  go_simp
  refine (type_c A).mono ?_
  rintro e w7 ⟨rfl, hk7⟩
  have z7 := hk7.size
  try simp at z7
  replace A : IsN w7 (.agg #[.pointer pa]) t := inna
  replace C : IsN w7 (.agg #[.pointer pb]) u := inna
  replace X : Loc w7 w.heap.size (.pointer pa) 30 := loca
  replace Xc := X.cell
  replace Xl := X.lt
  have Xl_w7 := Xl
  replace Xf := X.frozen
  replace Y : Loc w7 (w.heap.size + 1) (.pointer pb) 30 := loca
  replace Yc := Y.cell
  replace Yl := Y.lt
  have Yl_w7 := Yl
  replace Yf := Y.frozen
  replace K : Kp w.heap.size [] w w7 := kpa
  replace Kz := K.size
  have Kz_w7 := Kz
  clear hk7
  try dsimp only
  try simp only [sz3]
  refine hK.out _ _ ?_ ?_
  · intro _; exact ⟨Xc, Yc⟩
  clear hK K1
  try simp only [Act.put, pz]
  refine wpAnyU_oneG (i := 16) (by kernel_rfl) rfl (by rfl) (fun K1 hK => ?_)
  go_simp
  refine (type_c C).mono ?_
  rintro e w8 ⟨rfl, hk8⟩
  have z8 := hk8.size
  try simp at z8
  replace A : IsN w8 (.agg #[.pointer pa]) t := inna
  replace C : IsN w8 (.agg #[.pointer pb]) u := inna
  replace X : Loc w8 w.heap.size (.pointer pa) 30 := loca
  replace Xc := X.cell
  replace Xl := X.lt
  have Xl_w8 := Xl
  replace Xf := X.frozen
  replace Y : Loc w8 (w.heap.size + 1) (.pointer pb) 30 := loca
  replace Yc := Y.cell
  replace Yl := Y.lt
  have Yl_w8 := Yl
  replace Yf := Y.frozen
  replace K : Kp w.heap.size [] w w8 := kpa
  replace Kz := K.size
  have Kz_w8 := Kz
  clear hk8
  try dsimp only
  try simp only [sz3]
  refine hK.out _ _ ?_ ?_
  · intro _; exact ⟨Xc, Yc⟩
  clear hK K1
  try simp only [Act.put, pz]
  refine wpAnyU_oneG (i := 17) (by kernel_rfl) rfl (by rfl) (fun K1 hK => ?_)
  go_simp
  try dsimp only
  try simp only [sz3]
  refine hK.out _ _ ?_ ?_
  · intro _; exact ⟨Xc, Yc⟩
  clear hK K1
  try simp only [Act.put, pz]
  refine wpAnyU_one (i := 18) (by kernel_rfl) rfl rfl (fun K1 hK => ?_)
  go_simp
  try dsimp only
  try simp only [sz3]
  refine hK.out _ _ ?_ ?_
  · intro _; exact ⟨Xc, Yc⟩
  clear hK K1
  try simp only [Act.put, pz]
  refine wpAnyU_one (i := 19) (by kernel_rfl) rfl rfl (fun K1 hK => ?_)
  go_simp
  try dsimp only
  try simp only [sz3]
  refine hK.out _ _ ?_ ?_
  · intro _; exact ⟨Xc, Yc⟩
  clear hK K1
  try simp only [Act.put, pz]
  have hS4 := And.intro Xc Yc
  refine tkU 20 (v := undef) rfl (by kernel_rfl) (fun _ _ _ h => h) (Or.inr ⟨by rfl, rfl⟩) (by assumption) ?_
  try simp only [Act.put, pz]
  refine tkU 22 (v := undef) rfl (by kernel_rfl) (fun _ _ _ h => h) (Or.inr ⟨by rfl, rfl⟩) (by assumption) ?_
  try simp only [Act.put, pz]
  refine wpAnyU_skip (i := 21) (by kernel_rfl) rfl (by rfl) (by assumption) ?_
  try simp only [Act.put, pz]
  refine wpAnyU_skip (i := 23) (by kernel_rfl) rfl (by rfl) (by assumption) ?_
  try simp only [Act.put, pz]
  refine wpAnyU_skip (i := 24) (by kernel_rfl) rfl (by rfl) (by assumption) ?_
  try simp only [Act.put, pz]
  refine wpAnyU_one (i := 25) (by kernel_rfl) rfl rfl (fun K1 hK => ?_)
  go_simp
  try dsimp only
  try simp only [sz3]
  refine hK.out _ _ ?_ ?_
  · intro _; exact ⟨Xc, Yc⟩
  clear hK K1
  try simp only [Act.put, pz]
  refine wpAnyU_one (i := 26) (by kernel_rfl) rfl rfl (fun K1 hK => ?_)
  go_simp
  try dsimp only
  try simp only [sz3]
  refine hK.out _ _ ?_ ?_
  · intro _; exact ⟨Xc, Yc⟩
  clear hK K1
  try simp only [Act.put, pz]
  have hS5 := And.intro Xc Yc
  refine tkU 27 (v := undef) rfl (by kernel_rfl) (fun _ _ _ h => h) (Or.inr ⟨by rfl, rfl⟩) (by assumption) ?_
  try simp only [Act.put, pz]
  refine tkU 29 (v := undef) rfl (by kernel_rfl) (fun _ _ _ h => h) (Or.inr ⟨by rfl, rfl⟩) (by assumption) ?_
  try simp only [Act.put, pz]
  refine wpAnyU_skip (i := 28) (by kernel_rfl) rfl (by rfl) (by assumption) ?_
  try simp only [Act.put, pz]
  refine wpAnyU_skip (i := 30) (by kernel_rfl) rfl (by rfl) (by assumption) ?_
  try simp only [Act.put, pz]
  refine wpAnyU_skip (i := 31) (by kernel_rfl) rfl (by rfl) (by assumption) ?_
  try simp only [Act.put, pz]
  refine wpAnyU_one (i := 32) (by kernel_rfl) rfl rfl (fun K1 hK => ?_)
  go_simp
  try dsimp only
  try simp only [sz3]
  refine hK.out _ _ ?_ ?_
  · intro _; exact ⟨Xc, Yc⟩
  clear hK K1
  try simp only [Act.put, pz]
  refine wpAnyU_done (by kernel_rfl) ?_ _
  go_wp2
  go_ret
  exact ⟨rfl, kpa⟩

set_option maxRecDepth 100000 in
set_option maxHeartbeats 2000000 in
theorem alike_4 (t u : T) (va vb : Value) (w : World) (hA : IsN w va t) (hB : IsN w vb u) (h1 : t.op = u.op) (h2 : t.name = u.name) (h3 : t.typ = u.typ) (h4 : ¬ t.n = u.n) :
    Calls Tryz.prog 12 #[va, vb] w fun e w' => e = .returned (.bool false) ∧ Kp w.heap.size [] w w' := by
  obtain ⟨pa, rfl⟩ := hA.shape
  obtain ⟨pb, rfl⟩ := hB.shape
  have A := hA
  have C := hB
  have K := Kp.refl w.heap.size [] w
  clear hA hB
  have X : Loc ((w.alloc (.cells #[.pointer pa] 30)).alloc (.cells #[.pointer pb] 30)) w.heap.size (.pointer pa) 30 := loca
  have Y : Loc ((w.alloc (.cells #[.pointer pa] 30)).alloc (.cells #[.pointer pb] 30)) (w.heap.size + 1) (.pointer pb) 30 := loca
  replace A : IsN (((w.alloc (.cells #[.pointer pa] 30)).alloc (.cells #[.pointer pb] 30))) (.agg #[.pointer pa]) t := inna
  replace C : IsN (((w.alloc (.cells #[.pointer pa] 30)).alloc (.cells #[.pointer pb] 30))) (.agg #[.pointer pb]) u := inna
  replace X : Loc (((w.alloc (.cells #[.pointer pa] 30)).alloc (.cells #[.pointer pb] 30))) w.heap.size (.pointer pa) 30 := loca
  replace Xc := X.cell
  replace Xl := X.lt
  have Xl_walloccellspointerpa30alloccellspointerpb30 := Xl
  replace Xf := X.frozen
  replace Y : Loc (((w.alloc (.cells #[.pointer pa] 30)).alloc (.cells #[.pointer pb] 30))) (w.heap.size + 1) (.pointer pb) 30 := loca
  replace Yc := Y.cell
  replace Yl := Y.lt
  have Yl_walloccellspointerpa30alloccellspointerpb30 := Yl
  replace Yf := Y.frozen
  replace K : Kp w.heap.size [] w (((w.alloc (.cells #[.pointer pa] 30)).alloc (.cells #[.pointer pb] 30))) := kpa
  replace Kz := K.size
  have Kz_walloccellspointerpa30alloccellspointerpb30 := Kz
  have hb1 : (t.op == u.op) = true := by simp [h1]
  have hn1 : (t.op != u.op) = false := by simp [h1]
  have hb2 : (t.name == u.name) = true := by simp [h2]
  have hn2 : (t.name != u.name) = false := by simp [h2]
  have hb3 : (t.typ == u.typ) = true := by simp [h3]
  have hn3 : (t.typ != u.typ) = false := by simp [h3]
  have hb4 : (t.n == u.n) = false := by simp; omega
  have hn4 : (t.n != u.n) = true := by simp only [bne, hb4, Bool.not_false]
  go_enter Tryz.func12, Tryz.ntmps12
  go_wp2_with fail
  refine wp_region_U (S := (fun V => V.cell? ⟨w.heap.size, 0, none⟩ = some (.pointer pa) ∧ V.cell? ⟨w.heap.size + 1, 0, none⟩ = some (.pointer pb))) (F := []) (by kernel_rfl) (by (first | (simp; done) | (simp [World.cell?_setCell_other, World.cell?_alloc_lt, *]; done))) (fun hHeld => ?_)
  replace A : IsN (((w.alloc (.cells #[.pointer pa] 30)).alloc (.cells #[.pointer pb] 30)).drew) (.agg #[.pointer pa]) t := inna
  replace C : IsN (((w.alloc (.cells #[.pointer pa] 30)).alloc (.cells #[.pointer pb] 30)).drew) (.agg #[.pointer pb]) u := inna
  replace X : Loc (((w.alloc (.cells #[.pointer pa] 30)).alloc (.cells #[.pointer pb] 30)).drew) w.heap.size (.pointer pa) 30 := loca
  replace Xc := X.cell
  replace Xl := X.lt
  have Xl_walloccellspointerpa30alloccellspointerpb30drew := Xl
  replace Xf := X.frozen
  replace Y : Loc (((w.alloc (.cells #[.pointer pa] 30)).alloc (.cells #[.pointer pb] 30)).drew) (w.heap.size + 1) (.pointer pb) 30 := loca
  replace Yc := Y.cell
  replace Yl := Y.lt
  have Yl_walloccellspointerpa30alloccellspointerpb30drew := Yl
  replace Yf := Y.frozen
  replace K : Kp w.heap.size [] w (((w.alloc (.cells #[.pointer pa] 30)).alloc (.cells #[.pointer pb] 30)).drew) := kpa
  replace Kz := K.size
  have Kz_walloccellspointerpa30alloccellspointerpb30drew := Kz
  refine tkU 0 (v := ?_) rfl (by kernel_rfl) (fun _ _ _ h => h) (Or.inl ⟨by rfl, ?_⟩) (by assumption) ?_
  rotate_left
  · intro w hSw; (try dsimp only at hSw); go_simp; try with_reducible rfl
  try simp only [Act.put, pz]
  refine tkU 2 (v := ?_) rfl (by kernel_rfl) (fun _ _ _ h => h) (Or.inl ⟨by rfl, ?_⟩) (by assumption) ?_
  rotate_left
  · intro w hSw; (try dsimp only at hSw); go_simp; try with_reducible rfl
  try simp only [Act.put, pz]
  refine wpAnyU_one (i := 1) (by kernel_rfl) rfl rfl (fun K1 hK => ?_)
  go_simp
  refine (op_c A).mono ?_
  rintro e w3 ⟨rfl, hk3⟩
  have z3 := hk3.size
  try simp at z3
  replace A : IsN w3 (.agg #[.pointer pa]) t := inna
  replace C : IsN w3 (.agg #[.pointer pb]) u := inna
  replace X : Loc w3 w.heap.size (.pointer pa) 30 := loca
  replace Xc := X.cell
  replace Xl := X.lt
  have Xl_w3 := Xl
  replace Xf := X.frozen
  replace Y : Loc w3 (w.heap.size + 1) (.pointer pb) 30 := loca
  replace Yc := Y.cell
  replace Yl := Y.lt
  have Yl_w3 := Yl
  replace Yf := Y.frozen
  replace K : Kp w.heap.size [] w w3 := kpa
  replace Kz := K.size
  have Kz_w3 := Kz
  clear hk3
  try dsimp only
  try simp only [sz3]
  refine hK.out _ _ ?_ ?_
  · intro _; exact ⟨Xc, Yc⟩
  clear hK K1
  try simp only [Act.put, pz]
  refine wpAnyU_one (i := 3) (by kernel_rfl) rfl rfl (fun K1 hK => ?_)
  go_simp
  refine (op_c C).mono ?_
  rintro e w4 ⟨rfl, hk4⟩
  have z4 := hk4.size
  try simp at z4
  replace A : IsN w4 (.agg #[.pointer pa]) t := inna
  replace C : IsN w4 (.agg #[.pointer pb]) u := inna
  replace X : Loc w4 w.heap.size (.pointer pa) 30 := loca
  replace Xc := X.cell
  replace Xl := X.lt
  have Xl_w4 := Xl
  replace Xf := X.frozen
  replace Y : Loc w4 (w.heap.size + 1) (.pointer pb) 30 := loca
  replace Yc := Y.cell
  replace Yl := Y.lt
  have Yl_w4 := Yl
  replace Yf := Y.frozen
  replace K : Kp w.heap.size [] w w4 := kpa
  replace Kz := K.size
  have Kz_w4 := Kz
  clear hk4
  try dsimp only
  try simp only [sz3]
  refine hK.out _ _ ?_ ?_
  · intro _; exact ⟨Xc, Yc⟩
  clear hK K1
  try simp only [Act.put, pz]
  refine wpAnyU_one (i := 4) (by kernel_rfl) rfl rfl (fun K1 hK => ?_)
  go_simp
  try dsimp only
  try simp only [sz3]
  refine hK.out _ _ ?_ ?_
  · intro _; exact ⟨Xc, Yc⟩
  clear hK K1
  try simp only [Act.put, pz]
  refine wpAnyU_one (i := 5) (by kernel_rfl) rfl rfl (fun K1 hK => ?_)
  go_simp
  try dsimp only
  try simp only [sz3]
  refine hK.out _ _ ?_ ?_
  · intro _; exact ⟨Xc, Yc⟩
  clear hK K1
  try simp only [Act.put, pz]
  have hS2 := And.intro Xc Yc
  refine tkU 6 (v := ?_) rfl (by kernel_rfl) (fun _ _ _ h => h) (Or.inl ⟨by rfl, ?_⟩) (by assumption) ?_
  rotate_left
  · intro w hSw; (try dsimp only at hSw); go_simp; try with_reducible rfl
  try simp only [Act.put, pz]
  refine tkU 8 (v := ?_) rfl (by kernel_rfl) (fun _ _ _ h => h) (Or.inl ⟨by rfl, ?_⟩) (by assumption) ?_
  rotate_left
  · intro w hSw; (try dsimp only at hSw); go_simp; try with_reducible rfl
  try simp only [Act.put, pz]
  refine wpAnyU_oneG (i := 7) (by kernel_rfl) rfl (by rfl) (fun K1 hK => ?_)
  go_simp
  refine (name_c A).mono ?_
  rintro e w5 ⟨rfl, hk5⟩
  have z5 := hk5.size
  try simp at z5
  replace A : IsN w5 (.agg #[.pointer pa]) t := inna
  replace C : IsN w5 (.agg #[.pointer pb]) u := inna
  replace X : Loc w5 w.heap.size (.pointer pa) 30 := loca
  replace Xc := X.cell
  replace Xl := X.lt
  have Xl_w5 := Xl
  replace Xf := X.frozen
  replace Y : Loc w5 (w.heap.size + 1) (.pointer pb) 30 := loca
  replace Yc := Y.cell
  replace Yl := Y.lt
  have Yl_w5 := Yl
  replace Yf := Y.frozen
  replace K : Kp w.heap.size [] w w5 := kpa
  replace Kz := K.size
  have Kz_w5 := Kz
  clear hk5
  try dsimp only
  try simp only [sz3]
  refine hK.out _ _ ?_ ?_
  · intro _; exact ⟨Xc, Yc⟩
  clear hK K1
  try simp only [Act.put, pz]
  refine wpAnyU_oneG (i := 9) (by kernel_rfl) rfl (by rfl) (fun K1 hK => ?_)
  go_simp
  refine (name_c C).mono ?_
  rintro e w6 ⟨rfl, hk6⟩
  have z6 := hk6.size
  try simp at z6
  replace A : IsN w6 (.agg #[.pointer pa]) t := inna
  replace C : IsN w6 (.agg #[.pointer pb]) u := inna
  replace X : Loc w6 w.heap.size (.pointer pa) 30 := loca
  replace Xc := X.cell
  replace Xl := X.lt
  have Xl_w6 := Xl
  replace Xf := X.frozen
  replace Y : Loc w6 (w.heap.size + 1) (.pointer pb) 30 := loca
  replace Yc := Y.cell
  replace Yl := Y.lt
  have Yl_w6 := Yl
  replace Yf := Y.frozen
  replace K : Kp w.heap.size [] w w6 := kpa
  replace Kz := K.size
  have Kz_w6 := Kz
  clear hk6
  try dsimp only
  try simp only [sz3]
  refine hK.out _ _ ?_ ?_
  · intro _; exact ⟨Xc, Yc⟩
  clear hK K1
  try simp only [Act.put, pz]
  refine wpAnyU_oneG (i := 10) (by kernel_rfl) rfl (by rfl) (fun K1 hK => ?_)
  go_simp
  try dsimp only
  try simp only [sz3]
  refine hK.out _ _ ?_ ?_
  · intro _; exact ⟨Xc, Yc⟩
  clear hK K1
  try simp only [Act.put, pz]
  refine wpAnyU_one (i := 11) (by kernel_rfl) rfl rfl (fun K1 hK => ?_)
  go_simp
  try dsimp only
  try simp only [sz3]
  refine hK.out _ _ ?_ ?_
  · intro _; exact ⟨Xc, Yc⟩
  clear hK K1
  try simp only [Act.put, pz]
  refine wpAnyU_one (i := 12) (by kernel_rfl) rfl rfl (fun K1 hK => ?_)
  go_simp
  try dsimp only
  try simp only [sz3]
  refine hK.out _ _ ?_ ?_
  · intro _; exact ⟨Xc, Yc⟩
  clear hK K1
  try simp only [Act.put, pz]
  have hS3 := And.intro Xc Yc
  refine tkU 13 (v := ?_) rfl (by kernel_rfl) (fun _ _ _ h => h) (Or.inl ⟨by rfl, ?_⟩) (by assumption) ?_
  rotate_left
  · intro w hSw; (try dsimp only at hSw); go_simp; try with_reducible rfl
  try simp only [Act.put, pz]
  refine tkU 15 (v := ?_) rfl (by kernel_rfl) (fun _ _ _ h => h) (Or.inl ⟨by rfl, ?_⟩) (by assumption) ?_
  rotate_left
  · intro w hSw; (try dsimp only at hSw); go_simp; try with_reducible rfl
  try simp only [Act.put, pz]
  refine wpAnyU_oneG (i := 14) (by kernel_rfl) rfl (by rfl) (fun K1 hK => ?_)
  go_simp
  refine (type_c A).mono ?_
  rintro e w7 ⟨rfl, hk7⟩
  have z7 := hk7.size
  try simp at z7
  replace A : IsN w7 (.agg #[.pointer pa]) t := inna
  replace C : IsN w7 (.agg #[.pointer pb]) u := inna
  replace X : Loc w7 w.heap.size (.pointer pa) 30 := loca
  replace Xc := X.cell
  replace Xl := X.lt
  have Xl_w7 := Xl
  replace Xf := X.frozen
  replace Y : Loc w7 (w.heap.size + 1) (.pointer pb) 30 := loca
  replace Yc := Y.cell
  replace Yl := Y.lt
  have Yl_w7 := Yl
  replace Yf := Y.frozen
  replace K : Kp w.heap.size [] w w7 := kpa
  replace Kz := K.size
  have Kz_w7 := Kz
  clear hk7
  try dsimp only
  try simp only [sz3]
  refine hK.out _ _ ?_ ?_
  · intro _; exact ⟨Xc, Yc⟩
  clear hK K1
  try simp only [Act.put, pz]
  refine wpAnyU_oneG (i := 16) (by kernel_rfl) rfl (by rfl) (fun K1 hK => ?_)
  go_simp
  refine (type_c C).mono ?_
  rintro e w8 ⟨rfl, hk8⟩
  have z8 := hk8.size
  try simp at z8
  replace A : IsN w8 (.agg #[.pointer pa]) t := inna
  replace C : IsN w8 (.agg #[.pointer pb]) u := inna
  replace X : Loc w8 w.heap.size (.pointer pa) 30 := loca
  replace Xc := X.cell
  replace Xl := X.lt
  have Xl_w8 := Xl
  replace Xf := X.frozen
  replace Y : Loc w8 (w.heap.size + 1) (.pointer pb) 30 := loca
  replace Yc := Y.cell
  replace Yl := Y.lt
  have Yl_w8 := Yl
  replace Yf := Y.frozen
  replace K : Kp w.heap.size [] w w8 := kpa
  replace Kz := K.size
  have Kz_w8 := Kz
  clear hk8
  try dsimp only
  try simp only [sz3]
  refine hK.out _ _ ?_ ?_
  · intro _; exact ⟨Xc, Yc⟩
  clear hK K1
  try simp only [Act.put, pz]
  refine wpAnyU_oneG (i := 17) (by kernel_rfl) rfl (by rfl) (fun K1 hK => ?_)
  go_simp
  try dsimp only
  try simp only [sz3]
  refine hK.out _ _ ?_ ?_
  · intro _; exact ⟨Xc, Yc⟩
  clear hK K1
  try simp only [Act.put, pz]
  refine wpAnyU_one (i := 18) (by kernel_rfl) rfl rfl (fun K1 hK => ?_)
  go_simp
  try dsimp only
  try simp only [sz3]
  refine hK.out _ _ ?_ ?_
  · intro _; exact ⟨Xc, Yc⟩
  clear hK K1
  try simp only [Act.put, pz]
  refine wpAnyU_one (i := 19) (by kernel_rfl) rfl rfl (fun K1 hK => ?_)
  go_simp
  try dsimp only
  try simp only [sz3]
  refine hK.out _ _ ?_ ?_
  · intro _; exact ⟨Xc, Yc⟩
  clear hK K1
  try simp only [Act.put, pz]
  have hS4 := And.intro Xc Yc
  refine tkU 20 (v := ?_) rfl (by kernel_rfl) (fun _ _ _ h => h) (Or.inl ⟨by rfl, ?_⟩) (by assumption) ?_
  rotate_left
  · intro w hSw; (try dsimp only at hSw); go_simp; try with_reducible rfl
  try simp only [Act.put, pz]
  refine tkU 22 (v := ?_) rfl (by kernel_rfl) (fun _ _ _ h => h) (Or.inl ⟨by rfl, ?_⟩) (by assumption) ?_
  rotate_left
  · intro w hSw; (try dsimp only at hSw); go_simp; try with_reducible rfl
  try simp only [Act.put, pz]
  refine wpAnyU_oneG (i := 21) (by kernel_rfl) rfl (by rfl) (fun K1 hK => ?_)
  go_simp
  refine (n_c A).mono ?_
  rintro e w9 ⟨rfl, hk9⟩
  have z9 := hk9.size
  try simp at z9
  replace A : IsN w9 (.agg #[.pointer pa]) t := inna
  replace C : IsN w9 (.agg #[.pointer pb]) u := inna
  replace X : Loc w9 w.heap.size (.pointer pa) 30 := loca
  replace Xc := X.cell
  replace Xl := X.lt
  have Xl_w9 := Xl
  replace Xf := X.frozen
  replace Y : Loc w9 (w.heap.size + 1) (.pointer pb) 30 := loca
  replace Yc := Y.cell
  replace Yl := Y.lt
  have Yl_w9 := Yl
  replace Yf := Y.frozen
  replace K : Kp w.heap.size [] w w9 := kpa
  replace Kz := K.size
  have Kz_w9 := Kz
  clear hk9
  try dsimp only
  try simp only [sz3]
  refine hK.out _ _ ?_ ?_
  · intro _; exact ⟨Xc, Yc⟩
  clear hK K1
  try simp only [Act.put, pz]
  refine wpAnyU_oneG (i := 23) (by kernel_rfl) rfl (by rfl) (fun K1 hK => ?_)
  go_simp
  refine (n_c C).mono ?_
  rintro e w10 ⟨rfl, hk10⟩
  have z10 := hk10.size
  try simp at z10
  replace A : IsN w10 (.agg #[.pointer pa]) t := inna
  replace C : IsN w10 (.agg #[.pointer pb]) u := inna
  replace X : Loc w10 w.heap.size (.pointer pa) 30 := loca
  replace Xc := X.cell
  replace Xl := X.lt
  have Xl_w10 := Xl
  replace Xf := X.frozen
  replace Y : Loc w10 (w.heap.size + 1) (.pointer pb) 30 := loca
  replace Yc := Y.cell
  replace Yl := Y.lt
  have Yl_w10 := Yl
  replace Yf := Y.frozen
  replace K : Kp w.heap.size [] w w10 := kpa
  replace Kz := K.size
  have Kz_w10 := Kz
  clear hk10
  try dsimp only
  try simp only [sz3]
  refine hK.out _ _ ?_ ?_
  · intro _; exact ⟨Xc, Yc⟩
  clear hK K1
  try simp only [Act.put, pz]
  refine wpAnyU_oneG (i := 24) (by kernel_rfl) rfl (by rfl) (fun K1 hK => ?_)
  go_simp
  try dsimp only
  try simp only [sz3]
  refine hK.out _ _ ?_ ?_
  · intro _; exact ⟨Xc, Yc⟩
  clear hK K1
  try simp only [Act.put, pz]
  refine wpAnyU_one (i := 25) (by kernel_rfl) rfl rfl (fun K1 hK => ?_)
  go_simp
  try dsimp only
  try simp only [sz3]
  refine hK.out _ _ ?_ ?_
  · intro _; exact ⟨Xc, Yc⟩
  clear hK K1
  try simp only [Act.put, pz]
  refine wpAnyU_one (i := 26) (by kernel_rfl) rfl rfl (fun K1 hK => ?_)
  go_simp
  try dsimp only
  try simp only [sz3]
  refine hK.out _ _ ?_ ?_
  · intro _; exact ⟨Xc, Yc⟩
  clear hK K1
  try simp only [Act.put, pz]
  have hS5 := And.intro Xc Yc
  refine tkU 27 (v := undef) rfl (by kernel_rfl) (fun _ _ _ h => h) (Or.inr ⟨by rfl, rfl⟩) (by assumption) ?_
  try simp only [Act.put, pz]
  refine tkU 29 (v := undef) rfl (by kernel_rfl) (fun _ _ _ h => h) (Or.inr ⟨by rfl, rfl⟩) (by assumption) ?_
  try simp only [Act.put, pz]
  refine wpAnyU_skip (i := 28) (by kernel_rfl) rfl (by rfl) (by assumption) ?_
  try simp only [Act.put, pz]
  refine wpAnyU_skip (i := 30) (by kernel_rfl) rfl (by rfl) (by assumption) ?_
  try simp only [Act.put, pz]
  refine wpAnyU_skip (i := 31) (by kernel_rfl) rfl (by rfl) (by assumption) ?_
  try simp only [Act.put, pz]
  refine wpAnyU_one (i := 32) (by kernel_rfl) rfl rfl (fun K1 hK => ?_)
  go_simp
  try dsimp only
  try simp only [sz3]
  refine hK.out _ _ ?_ ?_
  · intro _; exact ⟨Xc, Yc⟩
  clear hK K1
  try simp only [Act.put, pz]
  refine wpAnyU_done (by kernel_rfl) ?_ _
  go_wp2
  go_ret
  exact ⟨rfl, kpa⟩

set_option maxRecDepth 100000 in
set_option maxHeartbeats 2000000 in
theorem alike_5 (t u : T) (va vb : Value) (w : World) (hA : IsN w va t) (hB : IsN w vb u) (h1 : t.op = u.op) (h2 : t.name = u.name) (h3 : t.typ = u.typ) (h4 : t.n = u.n) (h5 : ¬ t.kids.length = u.kids.length) :
    Calls Tryz.prog 12 #[va, vb] w fun e w' => e = .returned (.bool false) ∧ Kp w.heap.size [] w w' := by
  obtain ⟨pa, rfl⟩ := hA.shape
  obtain ⟨pb, rfl⟩ := hB.shape
  have A := hA
  have C := hB
  have K := Kp.refl w.heap.size [] w
  clear hA hB
  have X : Loc ((w.alloc (.cells #[.pointer pa] 30)).alloc (.cells #[.pointer pb] 30)) w.heap.size (.pointer pa) 30 := loca
  have Y : Loc ((w.alloc (.cells #[.pointer pa] 30)).alloc (.cells #[.pointer pb] 30)) (w.heap.size + 1) (.pointer pb) 30 := loca
  replace A : IsN (((w.alloc (.cells #[.pointer pa] 30)).alloc (.cells #[.pointer pb] 30))) (.agg #[.pointer pa]) t := inna
  replace C : IsN (((w.alloc (.cells #[.pointer pa] 30)).alloc (.cells #[.pointer pb] 30))) (.agg #[.pointer pb]) u := inna
  replace X : Loc (((w.alloc (.cells #[.pointer pa] 30)).alloc (.cells #[.pointer pb] 30))) w.heap.size (.pointer pa) 30 := loca
  replace Xc := X.cell
  replace Xl := X.lt
  have Xl_walloccellspointerpa30alloccellspointerpb30 := Xl
  replace Xf := X.frozen
  replace Y : Loc (((w.alloc (.cells #[.pointer pa] 30)).alloc (.cells #[.pointer pb] 30))) (w.heap.size + 1) (.pointer pb) 30 := loca
  replace Yc := Y.cell
  replace Yl := Y.lt
  have Yl_walloccellspointerpa30alloccellspointerpb30 := Yl
  replace Yf := Y.frozen
  replace K : Kp w.heap.size [] w (((w.alloc (.cells #[.pointer pa] 30)).alloc (.cells #[.pointer pb] 30))) := kpa
  replace Kz := K.size
  have Kz_walloccellspointerpa30alloccellspointerpb30 := Kz
  have hb1 : (t.op == u.op) = true := by simp [h1]
  have hn1 : (t.op != u.op) = false := by simp [h1]
  have hb2 : (t.name == u.name) = true := by simp [h2]
  have hn2 : (t.name != u.name) = false := by simp [h2]
  have hb3 : (t.typ == u.typ) = true := by simp [h3]
  have hn3 : (t.typ != u.typ) = false := by simp [h3]
  have hb4 : (t.n == u.n) = true := by simp [h4]
  have hn4 : (t.n != u.n) = false := by simp [h4]
  have hb5 : ((t.kids.length : Int) == (u.kids.length : Int)) = false := by simp; omega
  have hn5 : ((t.kids.length : Int) != (u.kids.length : Int)) = true := by simp only [bne, hb5, Bool.not_false]
  go_enter Tryz.func12, Tryz.ntmps12
  go_wp2_with fail
  refine wp_region_U (S := (fun V => V.cell? ⟨w.heap.size, 0, none⟩ = some (.pointer pa) ∧ V.cell? ⟨w.heap.size + 1, 0, none⟩ = some (.pointer pb))) (F := []) (by kernel_rfl) (by (first | (simp; done) | (simp [World.cell?_setCell_other, World.cell?_alloc_lt, *]; done))) (fun hHeld => ?_)
  replace A : IsN (((w.alloc (.cells #[.pointer pa] 30)).alloc (.cells #[.pointer pb] 30)).drew) (.agg #[.pointer pa]) t := inna
  replace C : IsN (((w.alloc (.cells #[.pointer pa] 30)).alloc (.cells #[.pointer pb] 30)).drew) (.agg #[.pointer pb]) u := inna
  replace X : Loc (((w.alloc (.cells #[.pointer pa] 30)).alloc (.cells #[.pointer pb] 30)).drew) w.heap.size (.pointer pa) 30 := loca
  replace Xc := X.cell
  replace Xl := X.lt
  have Xl_walloccellspointerpa30alloccellspointerpb30drew := Xl
  replace Xf := X.frozen
  replace Y : Loc (((w.alloc (.cells #[.pointer pa] 30)).alloc (.cells #[.pointer pb] 30)).drew) (w.heap.size + 1) (.pointer pb) 30 := loca
  replace Yc := Y.cell
  replace Yl := Y.lt
  have Yl_walloccellspointerpa30alloccellspointerpb30drew := Yl
  replace Yf := Y.frozen
  replace K : Kp w.heap.size [] w (((w.alloc (.cells #[.pointer pa] 30)).alloc (.cells #[.pointer pb] 30)).drew) := kpa
  replace Kz := K.size
  have Kz_walloccellspointerpa30alloccellspointerpb30drew := Kz
  refine tkU 0 (v := ?_) rfl (by kernel_rfl) (fun _ _ _ h => h) (Or.inl ⟨by rfl, ?_⟩) (by assumption) ?_
  rotate_left
  · intro w hSw; (try dsimp only at hSw); go_simp; try with_reducible rfl
  try simp only [Act.put, pz]
  refine tkU 2 (v := ?_) rfl (by kernel_rfl) (fun _ _ _ h => h) (Or.inl ⟨by rfl, ?_⟩) (by assumption) ?_
  rotate_left
  · intro w hSw; (try dsimp only at hSw); go_simp; try with_reducible rfl
  try simp only [Act.put, pz]
  refine wpAnyU_one (i := 1) (by kernel_rfl) rfl rfl (fun K1 hK => ?_)
  go_simp
  refine (op_c A).mono ?_
  rintro e w3 ⟨rfl, hk3⟩
  have z3 := hk3.size
  try simp at z3
  replace A : IsN w3 (.agg #[.pointer pa]) t := inna
  replace C : IsN w3 (.agg #[.pointer pb]) u := inna
  replace X : Loc w3 w.heap.size (.pointer pa) 30 := loca
  replace Xc := X.cell
  replace Xl := X.lt
  have Xl_w3 := Xl
  replace Xf := X.frozen
  replace Y : Loc w3 (w.heap.size + 1) (.pointer pb) 30 := loca
  replace Yc := Y.cell
  replace Yl := Y.lt
  have Yl_w3 := Yl
  replace Yf := Y.frozen
  replace K : Kp w.heap.size [] w w3 := kpa
  replace Kz := K.size
  have Kz_w3 := Kz
  clear hk3
  try dsimp only
  try simp only [sz3]
  refine hK.out _ _ ?_ ?_
  · intro _; exact ⟨Xc, Yc⟩
  clear hK K1
  try simp only [Act.put, pz]
  refine wpAnyU_one (i := 3) (by kernel_rfl) rfl rfl (fun K1 hK => ?_)
  go_simp
  refine (op_c C).mono ?_
  rintro e w4 ⟨rfl, hk4⟩
  have z4 := hk4.size
  try simp at z4
  replace A : IsN w4 (.agg #[.pointer pa]) t := inna
  replace C : IsN w4 (.agg #[.pointer pb]) u := inna
  replace X : Loc w4 w.heap.size (.pointer pa) 30 := loca
  replace Xc := X.cell
  replace Xl := X.lt
  have Xl_w4 := Xl
  replace Xf := X.frozen
  replace Y : Loc w4 (w.heap.size + 1) (.pointer pb) 30 := loca
  replace Yc := Y.cell
  replace Yl := Y.lt
  have Yl_w4 := Yl
  replace Yf := Y.frozen
  replace K : Kp w.heap.size [] w w4 := kpa
  replace Kz := K.size
  have Kz_w4 := Kz
  clear hk4
  try dsimp only
  try simp only [sz3]
  refine hK.out _ _ ?_ ?_
  · intro _; exact ⟨Xc, Yc⟩
  clear hK K1
  try simp only [Act.put, pz]
  refine wpAnyU_one (i := 4) (by kernel_rfl) rfl rfl (fun K1 hK => ?_)
  go_simp
  try dsimp only
  try simp only [sz3]
  refine hK.out _ _ ?_ ?_
  · intro _; exact ⟨Xc, Yc⟩
  clear hK K1
  try simp only [Act.put, pz]
  refine wpAnyU_one (i := 5) (by kernel_rfl) rfl rfl (fun K1 hK => ?_)
  go_simp
  try dsimp only
  try simp only [sz3]
  refine hK.out _ _ ?_ ?_
  · intro _; exact ⟨Xc, Yc⟩
  clear hK K1
  try simp only [Act.put, pz]
  have hS2 := And.intro Xc Yc
  refine tkU 6 (v := ?_) rfl (by kernel_rfl) (fun _ _ _ h => h) (Or.inl ⟨by rfl, ?_⟩) (by assumption) ?_
  rotate_left
  · intro w hSw; (try dsimp only at hSw); go_simp; try with_reducible rfl
  try simp only [Act.put, pz]
  refine tkU 8 (v := ?_) rfl (by kernel_rfl) (fun _ _ _ h => h) (Or.inl ⟨by rfl, ?_⟩) (by assumption) ?_
  rotate_left
  · intro w hSw; (try dsimp only at hSw); go_simp; try with_reducible rfl
  try simp only [Act.put, pz]
  refine wpAnyU_oneG (i := 7) (by kernel_rfl) rfl (by rfl) (fun K1 hK => ?_)
  go_simp
  refine (name_c A).mono ?_
  rintro e w5 ⟨rfl, hk5⟩
  have z5 := hk5.size
  try simp at z5
  replace A : IsN w5 (.agg #[.pointer pa]) t := inna
  replace C : IsN w5 (.agg #[.pointer pb]) u := inna
  replace X : Loc w5 w.heap.size (.pointer pa) 30 := loca
  replace Xc := X.cell
  replace Xl := X.lt
  have Xl_w5 := Xl
  replace Xf := X.frozen
  replace Y : Loc w5 (w.heap.size + 1) (.pointer pb) 30 := loca
  replace Yc := Y.cell
  replace Yl := Y.lt
  have Yl_w5 := Yl
  replace Yf := Y.frozen
  replace K : Kp w.heap.size [] w w5 := kpa
  replace Kz := K.size
  have Kz_w5 := Kz
  clear hk5
  try dsimp only
  try simp only [sz3]
  refine hK.out _ _ ?_ ?_
  · intro _; exact ⟨Xc, Yc⟩
  clear hK K1
  try simp only [Act.put, pz]
  refine wpAnyU_oneG (i := 9) (by kernel_rfl) rfl (by rfl) (fun K1 hK => ?_)
  go_simp
  refine (name_c C).mono ?_
  rintro e w6 ⟨rfl, hk6⟩
  have z6 := hk6.size
  try simp at z6
  replace A : IsN w6 (.agg #[.pointer pa]) t := inna
  replace C : IsN w6 (.agg #[.pointer pb]) u := inna
  replace X : Loc w6 w.heap.size (.pointer pa) 30 := loca
  replace Xc := X.cell
  replace Xl := X.lt
  have Xl_w6 := Xl
  replace Xf := X.frozen
  replace Y : Loc w6 (w.heap.size + 1) (.pointer pb) 30 := loca
  replace Yc := Y.cell
  replace Yl := Y.lt
  have Yl_w6 := Yl
  replace Yf := Y.frozen
  replace K : Kp w.heap.size [] w w6 := kpa
  replace Kz := K.size
  have Kz_w6 := Kz
  clear hk6
  try dsimp only
  try simp only [sz3]
  refine hK.out _ _ ?_ ?_
  · intro _; exact ⟨Xc, Yc⟩
  clear hK K1
  try simp only [Act.put, pz]
  refine wpAnyU_oneG (i := 10) (by kernel_rfl) rfl (by rfl) (fun K1 hK => ?_)
  go_simp
  try dsimp only
  try simp only [sz3]
  refine hK.out _ _ ?_ ?_
  · intro _; exact ⟨Xc, Yc⟩
  clear hK K1
  try simp only [Act.put, pz]
  refine wpAnyU_one (i := 11) (by kernel_rfl) rfl rfl (fun K1 hK => ?_)
  go_simp
  try dsimp only
  try simp only [sz3]
  refine hK.out _ _ ?_ ?_
  · intro _; exact ⟨Xc, Yc⟩
  clear hK K1
  try simp only [Act.put, pz]
  refine wpAnyU_one (i := 12) (by kernel_rfl) rfl rfl (fun K1 hK => ?_)
  go_simp
  try dsimp only
  try simp only [sz3]
  refine hK.out _ _ ?_ ?_
  · intro _; exact ⟨Xc, Yc⟩
  clear hK K1
  try simp only [Act.put, pz]
  have hS3 := And.intro Xc Yc
  refine tkU 13 (v := ?_) rfl (by kernel_rfl) (fun _ _ _ h => h) (Or.inl ⟨by rfl, ?_⟩) (by assumption) ?_
  rotate_left
  · intro w hSw; (try dsimp only at hSw); go_simp; try with_reducible rfl
  try simp only [Act.put, pz]
  refine tkU 15 (v := ?_) rfl (by kernel_rfl) (fun _ _ _ h => h) (Or.inl ⟨by rfl, ?_⟩) (by assumption) ?_
  rotate_left
  · intro w hSw; (try dsimp only at hSw); go_simp; try with_reducible rfl
  try simp only [Act.put, pz]
  refine wpAnyU_oneG (i := 14) (by kernel_rfl) rfl (by rfl) (fun K1 hK => ?_)
  go_simp
  refine (type_c A).mono ?_
  rintro e w7 ⟨rfl, hk7⟩
  have z7 := hk7.size
  try simp at z7
  replace A : IsN w7 (.agg #[.pointer pa]) t := inna
  replace C : IsN w7 (.agg #[.pointer pb]) u := inna
  replace X : Loc w7 w.heap.size (.pointer pa) 30 := loca
  replace Xc := X.cell
  replace Xl := X.lt
  have Xl_w7 := Xl
  replace Xf := X.frozen
  replace Y : Loc w7 (w.heap.size + 1) (.pointer pb) 30 := loca
  replace Yc := Y.cell
  replace Yl := Y.lt
  have Yl_w7 := Yl
  replace Yf := Y.frozen
  replace K : Kp w.heap.size [] w w7 := kpa
  replace Kz := K.size
  have Kz_w7 := Kz
  clear hk7
  try dsimp only
  try simp only [sz3]
  refine hK.out _ _ ?_ ?_
  · intro _; exact ⟨Xc, Yc⟩
  clear hK K1
  try simp only [Act.put, pz]
  refine wpAnyU_oneG (i := 16) (by kernel_rfl) rfl (by rfl) (fun K1 hK => ?_)
  go_simp
  refine (type_c C).mono ?_
  rintro e w8 ⟨rfl, hk8⟩
  have z8 := hk8.size
  try simp at z8
  replace A : IsN w8 (.agg #[.pointer pa]) t := inna
  replace C : IsN w8 (.agg #[.pointer pb]) u := inna
  replace X : Loc w8 w.heap.size (.pointer pa) 30 := loca
  replace Xc := X.cell
  replace Xl := X.lt
  have Xl_w8 := Xl
  replace Xf := X.frozen
  replace Y : Loc w8 (w.heap.size + 1) (.pointer pb) 30 := loca
  replace Yc := Y.cell
  replace Yl := Y.lt
  have Yl_w8 := Yl
  replace Yf := Y.frozen
  replace K : Kp w.heap.size [] w w8 := kpa
  replace Kz := K.size
  have Kz_w8 := Kz
  clear hk8
  try dsimp only
  try simp only [sz3]
  refine hK.out _ _ ?_ ?_
  · intro _; exact ⟨Xc, Yc⟩
  clear hK K1
  try simp only [Act.put, pz]
  refine wpAnyU_oneG (i := 17) (by kernel_rfl) rfl (by rfl) (fun K1 hK => ?_)
  go_simp
  try dsimp only
  try simp only [sz3]
  refine hK.out _ _ ?_ ?_
  · intro _; exact ⟨Xc, Yc⟩
  clear hK K1
  try simp only [Act.put, pz]
  refine wpAnyU_one (i := 18) (by kernel_rfl) rfl rfl (fun K1 hK => ?_)
  go_simp
  try dsimp only
  try simp only [sz3]
  refine hK.out _ _ ?_ ?_
  · intro _; exact ⟨Xc, Yc⟩
  clear hK K1
  try simp only [Act.put, pz]
  refine wpAnyU_one (i := 19) (by kernel_rfl) rfl rfl (fun K1 hK => ?_)
  go_simp
  try dsimp only
  try simp only [sz3]
  refine hK.out _ _ ?_ ?_
  · intro _; exact ⟨Xc, Yc⟩
  clear hK K1
  try simp only [Act.put, pz]
  have hS4 := And.intro Xc Yc
  refine tkU 20 (v := ?_) rfl (by kernel_rfl) (fun _ _ _ h => h) (Or.inl ⟨by rfl, ?_⟩) (by assumption) ?_
  rotate_left
  · intro w hSw; (try dsimp only at hSw); go_simp; try with_reducible rfl
  try simp only [Act.put, pz]
  refine tkU 22 (v := ?_) rfl (by kernel_rfl) (fun _ _ _ h => h) (Or.inl ⟨by rfl, ?_⟩) (by assumption) ?_
  rotate_left
  · intro w hSw; (try dsimp only at hSw); go_simp; try with_reducible rfl
  try simp only [Act.put, pz]
  refine wpAnyU_oneG (i := 21) (by kernel_rfl) rfl (by rfl) (fun K1 hK => ?_)
  go_simp
  refine (n_c A).mono ?_
  rintro e w9 ⟨rfl, hk9⟩
  have z9 := hk9.size
  try simp at z9
  replace A : IsN w9 (.agg #[.pointer pa]) t := inna
  replace C : IsN w9 (.agg #[.pointer pb]) u := inna
  replace X : Loc w9 w.heap.size (.pointer pa) 30 := loca
  replace Xc := X.cell
  replace Xl := X.lt
  have Xl_w9 := Xl
  replace Xf := X.frozen
  replace Y : Loc w9 (w.heap.size + 1) (.pointer pb) 30 := loca
  replace Yc := Y.cell
  replace Yl := Y.lt
  have Yl_w9 := Yl
  replace Yf := Y.frozen
  replace K : Kp w.heap.size [] w w9 := kpa
  replace Kz := K.size
  have Kz_w9 := Kz
  clear hk9
  try dsimp only
  try simp only [sz3]
  refine hK.out _ _ ?_ ?_
  · intro _; exact ⟨Xc, Yc⟩
  clear hK K1
  try simp only [Act.put, pz]
  refine wpAnyU_oneG (i := 23) (by kernel_rfl) rfl (by rfl) (fun K1 hK => ?_)
  go_simp
  refine (n_c C).mono ?_
  rintro e w10 ⟨rfl, hk10⟩
  have z10 := hk10.size
  try simp at z10
  replace A : IsN w10 (.agg #[.pointer pa]) t := inna
  replace C : IsN w10 (.agg #[.pointer pb]) u := inna
  replace X : Loc w10 w.heap.size (.pointer pa) 30 := loca
  replace Xc := X.cell
  replace Xl := X.lt
  have Xl_w10 := Xl
  replace Xf := X.frozen
  replace Y : Loc w10 (w.heap.size + 1) (.pointer pb) 30 := loca
  replace Yc := Y.cell
  replace Yl := Y.lt
  have Yl_w10 := Yl
  replace Yf := Y.frozen
  replace K : Kp w.heap.size [] w w10 := kpa
  replace Kz := K.size
  have Kz_w10 := Kz
  clear hk10
  try dsimp only
  try simp only [sz3]
  refine hK.out _ _ ?_ ?_
  · intro _; exact ⟨Xc, Yc⟩
  clear hK K1
  try simp only [Act.put, pz]
  refine wpAnyU_oneG (i := 24) (by kernel_rfl) rfl (by rfl) (fun K1 hK => ?_)
  go_simp
  try dsimp only
  try simp only [sz3]
  refine hK.out _ _ ?_ ?_
  · intro _; exact ⟨Xc, Yc⟩
  clear hK K1
  try simp only [Act.put, pz]
  refine wpAnyU_one (i := 25) (by kernel_rfl) rfl rfl (fun K1 hK => ?_)
  go_simp
  try dsimp only
  try simp only [sz3]
  refine hK.out _ _ ?_ ?_
  · intro _; exact ⟨Xc, Yc⟩
  clear hK K1
  try simp only [Act.put, pz]
  refine wpAnyU_one (i := 26) (by kernel_rfl) rfl rfl (fun K1 hK => ?_)
  go_simp
  try dsimp only
  try simp only [sz3]
  refine hK.out _ _ ?_ ?_
  · intro _; exact ⟨Xc, Yc⟩
  clear hK K1
  try simp only [Act.put, pz]
  have hS5 := And.intro Xc Yc
  refine tkU 27 (v := ?_) rfl (by kernel_rfl) (fun _ _ _ h => h) (Or.inl ⟨by rfl, ?_⟩) (by assumption) ?_
  rotate_left
  · intro w hSw; (try dsimp only at hSw); go_simp; try with_reducible rfl
  try simp only [Act.put, pz]
  refine tkU 29 (v := ?_) rfl (by kernel_rfl) (fun _ _ _ h => h) (Or.inl ⟨by rfl, ?_⟩) (by assumption) ?_
  rotate_left
  · intro w hSw; (try dsimp only at hSw); go_simp; try with_reducible rfl
  try simp only [Act.put, pz]
  refine wpAnyU_oneG (i := 28) (by kernel_rfl) rfl (by rfl) (fun K1 hK => ?_)
  go_simp
  refine (kids_c A).mono ?_
  rintro e w11 ⟨rfl, hk11⟩
  have z11 := hk11.size
  try simp at z11
  replace A : IsN w11 (.agg #[.pointer pa]) t := inna
  replace C : IsN w11 (.agg #[.pointer pb]) u := inna
  replace X : Loc w11 w.heap.size (.pointer pa) 30 := loca
  replace Xc := X.cell
  replace Xl := X.lt
  have Xl_w11 := Xl
  replace Xf := X.frozen
  replace Y : Loc w11 (w.heap.size + 1) (.pointer pb) 30 := loca
  replace Yc := Y.cell
  replace Yl := Y.lt
  have Yl_w11 := Yl
  replace Yf := Y.frozen
  replace K : Kp w.heap.size [] w w11 := kpa
  replace Kz := K.size
  have Kz_w11 := Kz
  clear hk11
  try dsimp only
  try simp only [sz3]
  refine hK.out _ _ ?_ ?_
  · intro _; exact ⟨Xc, Yc⟩
  clear hK K1
  try simp only [Act.put, pz]
  refine wpAnyU_oneG (i := 30) (by kernel_rfl) rfl (by rfl) (fun K1 hK => ?_)
  go_simp
  refine (kids_c C).mono ?_
  rintro e w12 ⟨rfl, hk12⟩
  have z12 := hk12.size
  try simp at z12
  replace A : IsN w12 (.agg #[.pointer pa]) t := inna
  replace C : IsN w12 (.agg #[.pointer pb]) u := inna
  replace X : Loc w12 w.heap.size (.pointer pa) 30 := loca
  replace Xc := X.cell
  replace Xl := X.lt
  have Xl_w12 := Xl
  replace Xf := X.frozen
  replace Y : Loc w12 (w.heap.size + 1) (.pointer pb) 30 := loca
  replace Yc := Y.cell
  replace Yl := Y.lt
  have Yl_w12 := Yl
  replace Yf := Y.frozen
  replace K : Kp w.heap.size [] w w12 := kpa
  replace Kz := K.size
  have Kz_w12 := Kz
  clear hk12
  try dsimp only
  try simp only [sz3]
  refine hK.out _ _ ?_ ?_
  · intro _; exact ⟨Xc, Yc⟩
  clear hK K1
  try simp only [Act.put, pz]
  refine wpAnyU_oneG (i := 31) (by kernel_rfl) rfl (by rfl) (fun K1 hK => ?_)
  go_simp
  try dsimp only
  try simp only [sz3]
  refine hK.out _ _ ?_ ?_
  · intro _; exact ⟨Xc, Yc⟩
  clear hK K1
  try simp only [Act.put, pz]
  refine wpAnyU_one (i := 32) (by kernel_rfl) rfl rfl (fun K1 hK => ?_)
  go_simp
  try dsimp only
  try simp only [sz3]
  refine hK.out _ _ ?_ ?_
  · intro _; exact ⟨Xc, Yc⟩
  clear hK K1
  try simp only [Act.put, pz]
  refine wpAnyU_done (by kernel_rfl) ?_ _
  go_wp2
  go_ret
  exact ⟨rfl, kpa⟩

end Go.Proofs.YtbplaekabeggkaaGreatDoor
