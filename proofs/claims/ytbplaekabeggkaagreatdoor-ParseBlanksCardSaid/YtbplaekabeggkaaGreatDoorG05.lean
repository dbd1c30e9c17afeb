/- PROVED: the law ParseBlanks of layer 4 answers true for every string, as its given card says (the listed package variables as the program lays them); no other condition. The parser, the lexer and the writer of the awake test are walked whole. Text 5 of 16. -/
import Derived.Test.YtbplaekabeggkaaGreatDoorG01
import Derived.Test.YtbplaekabeggkaaGreatDoorG03
import Derived.Test.YtbplaekabeggkaaGreatDoorG04
set_option linter.unusedSimpArgs false
set_option linter.unusedVariables false
namespace Go.Proofs.YtbplaekabeggkaaGreatDoor
open Go.RowKit

set_option maxHeartbeats 400000 in
theorem ahead_in (br bt n cap : Nat) (at_ k at2 : Int) (tx : ByteArray) (w : World)
   (h0 : w.cell? ⟨br, 0, none⟩ = some (.slice (some ⟨bt, 0, none⟩) n cap))
   (h1 : w.cell? ⟨br, 1, none⟩ = some (.int .i64 at_))
   (hb : br < w.heap.size) (hb2 : bt < w.heap.size)
   (hn0 : 0 ≤ at_) (hn : at_ + 1 < (n : Int)) (_hm : n ≤ 100000)
   (t0 : w.cell? ⟨bt, (at_ + 1).toNat * 3, none⟩ = some (.int .i64 k))
   (t1 : w.cell? ⟨bt, (at_ + 1).toNat * 3 + 1, none⟩ = some (.string tx))
   (t2 : w.cell? ⟨bt, (at_ + 1).toNat * 3 + 2, none⟩ = some (.int .i64 at2)) :
   Calls Tryz.prog 204 #[.pointer (some ⟨br, 0, none⟩)] w fun e w' => e = .returned (.agg #[.int .i64 k, .string tx, .int .i64 at2]) ∧ Kp w.heap.size [] w w' := by
  have hs : IntKind.i64.wrap (at_ + 1) = at_ + 1 := IntWalk.i64_in _ (by omega)
  have hs0 : 0 ≤ at_ + 1 := by omega
  have hs1 : at_ + 1 ≤ 100000 := by omega
  go_enter Tryz.func204, Tryz.ntmps204
  go_wp2
  go_quiet (fail)
  go_wp2
  go_region
  all_goals go_wp2
  refine bodyPost_ret (v := .agg #[.int .i64 k, .string tx, .int .i64 at2]) (by simp [results, Tryz.results204, go_sem]) rfl ⟨rfl, ?_⟩
  exact (((((Kp.refl _ _ _).alloc (Nat.le_refl _) _).drewN _).setCell (.inl (Nat.le_refl _)) _).setCell (.inl (Nat.le_refl _)) _).setCell (.inl (Nat.le_refl _)) _

set_option maxHeartbeats 400000 in
theorem ahead_out (br n cap : Nat) (sp : Option Addr) (at_ en : Int) (w : World)
   (h0 : w.cell? ⟨br, 0, none⟩ = some (.slice sp n cap))
   (h1 : w.cell? ⟨br, 1, none⟩ = some (.int .i64 at_))
   (h2 : w.cell? ⟨br, 2, none⟩ = some (.int .i64 en))
   (hb : br < w.heap.size) (hn0 : 0 ≤ at_) (hn1 : at_ ≤ 100000)
   (hn : (n : Int) ≤ at_ + 1) (_hm : n ≤ 100000) :
   Calls Tryz.prog 204 #[.pointer (some ⟨br, 0, none⟩)] w fun e w' => e = .returned (noTok en).val ∧ Kp w.heap.size [] w w' := by
  have hs : IntKind.i64.wrap (at_ + 1) = at_ + 1 := IntWalk.i64_in _ (by omega)
  have hs0 : 0 ≤ at_ + 1 := by omega
  go_enter Tryz.func204, Tryz.ntmps204
  go_wp2
  go_quiet (fail)
  go_wp2
  refine bodyPost_ret (v := .agg #[.int .i64 0, .string ⟨#[]⟩, .int .i64 en]) (by simp [results, Tryz.results204, go_sem]) rfl ⟨rfl, ?_⟩
  exact (((((Kp.refl _ _ _).alloc (Nat.le_refl _) _).drewN _).setCell (.inl (Nat.le_refl _)) _).setCell (.inl (Nat.le_refl _)) _).setCell (.inl (Nat.le_refl _)) _

theorem ahead_c {toks : List Tok} {en : Int} {br lim pos dep : Nat} {w : World} (h : Rdr toks en br lim pos dep w) :
    Calls Tryz.prog 204 #[.pointer (some ⟨br, 0, none⟩)] w fun e w' => e = .returned (.agg #[.int .i64 (tokAt toks en (pos + 1)).kind, .string (B (tokAt toks en (pos + 1)).text), .int .i64 (tokAt toks en (pos + 1)).at_]) ∧ Kp w.heap.size [] w w' := by
  obtain ⟨bt, cap, sp, h1, h2, h3, h4, h5⟩ := h.row
  have hs := h.small
  have hl := h.limle
  have hlt := h.lt
  have hpl := h.posle
  by_cases hp : pos + 1 < toks.length
  · have hne : toks ≠ [] := by rintro rfl; simp at hp
    obtain rfl := h2 hne
    have hg : toks[pos + 1]? = some toks[pos + 1] := List.getElem?_eq_getElem hp
    obtain ⟨c0, c1, c2⟩ := h5 (pos + 1) _ hg
    have e : ((pos : Int) + 1).toNat = pos + 1 := by omega
    have := ahead_in br bt toks.length cap pos toks[pos + 1].kind toks[pos + 1].at_ (B toks[pos + 1].text) w (by rw [cell_of_cells h1]; rfl) (by rw [cell_of_cells h1]; rfl) (by omega) (by omega) (by omega) (by omega) hs (by rw [e]; exact c0) (by rw [e]; exact c1) (by rw [e]; exact c2)
    refine this.mono ?_
    rintro e w' ⟨he, hk⟩
    refine ⟨?_, hk⟩
    rw [he, tokAt, hg]; rfl
  · have := ahead_out br toks.length cap sp pos en w (by rw [cell_of_cells h1]; rfl) (by rw [cell_of_cells h1]; rfl) (by rw [cell_of_cells h1]; rfl) (by omega) (by omega) (by omega) (by omega) hs
    refine this.mono ?_
    rintro e w' ⟨he, hk⟩
    refine ⟨?_, hk⟩
    rw [he, tokAt, List.getElem?_eq_none (by omega)]; rfl

/-- the zero node's tree -/
def zeroT : T := .mk 0 [] [] 0 0 []
@[reducible] def nilN : Value := .agg #[.pointer none]
/-- a node's value stands for a tree -/
def IsN (w : World) (v : Value) (t : T) : Prop := (v = nilN ∧ t = zeroT) ∨ ∃ b lo hi, v = .agg #[ptrV b] ∧ hi ≤ w.heap.size ∧ IsT w lo hi b t

theorem IsN.kp {w w' : World} {v : Value} {t : T} {n : Nat} (h : IsN w v t) (k : Kp n [] w w') (hn : w.heap.size ≤ n) : IsN w' v t := by
  rcases h with h | ⟨b, lo, hi, hv, hh, hT⟩
  · exact .inl h
  · exact .inr ⟨b, lo, hi, hv, Nat.le_trans hh k.size, IsT.frame (Nat.le_refl _) (Nat.le_refl _) (fun i _ hi' => k.block i (by omega) (by simp)) _ _ hT⟩
theorem IsN.shape {w : World} {v : Value} {t : T} (h : IsN w v t) : ∃ p, v = .agg #[.pointer p] := by
  rcases h with ⟨rfl, -⟩ | ⟨b, _, _, rfl, -⟩
  · exact ⟨_, rfl⟩
  · exact ⟨_, rfl⟩
/-- a slice value that reads as a tree's kids -/
def KidsV (w : World) (v : Value) (ts : List T) : Prop :=
  ∃ a cap, v = .slice a ts.length cap ∧ ∀ (i : Nat) (t : T), ts[i]? = some t → ∃ g o u, a = some ⟨g, o, none⟩ ∧ g < w.heap.size ∧ w.cell? ⟨g, o + i, none⟩ = some (.pointer (some ⟨u, 0, none⟩)) ∧ IsN w (.agg #[ptrV u]) t
theorem IsL.get {w : World} {lo hi : Nat} : ∀ (bs : List Nat) (ts : List T), IsL w lo hi bs ts → ∀ (i : Nat) (t : T), ts[i]? = some t → ∃ b, bs[i]? = some b ∧ IsT w lo hi b t
  | [], [], _, i, t, h => by simp at h
  | b :: bs, u :: ts, hL, 0, t, h => by
    simp only [IsL] at hL
    simp at h
    subst h
    exact ⟨b, rfl, hL.1⟩
  | b :: bs, u :: ts, hL, i + 1, t, h => by
    simp only [IsL] at hL
    simp only [List.getElem?_cons_succ] at h ⊢
    exact IsL.get bs ts hL.2 i t h
  | [], _ :: _, hL, _, _, _ => by simp [IsL] at hL
  | _ :: _, [], hL, _, _, _ => by simp [IsL] at hL
theorem IsL.len {w : World} {lo hi : Nat} : ∀ (bs : List Nat) (ts : List T), IsL w lo hi bs ts → bs.length = ts.length
  | [], [], _ => rfl
  | _ :: bs, _ :: ts, h => by simp only [IsL] at h; simp [IsL.len bs ts h.2]
  | [], _ :: _, h => by simp [IsL] at h
  | _ :: _, [], h => by simp [IsL] at h
/-- what the block of a node holds -/
theorem IsT.kidsV {w : World} {lo hi b : Nat} {t : T} (hh : hi ≤ w.heap.size) (h : IsT w lo hi b t) : ∃ sv, w.heap[b]? = some (.cells #[.int .i64 t.op, .string (B t.name), .string (B t.typ), .int .i64 t.n, .int .i64 t.at_, sv] 108 (0, 0)) ∧ KidsV w sv t.kids := by
  obtain ⟨-, -, sv, bs, h3, h4, h5, h6⟩ := h.cells
  refine ⟨sv, h3, ?_⟩
  have hl := IsL.len _ _ h6
  rcases h4.2 with ⟨rfl, hn⟩ | ⟨g, cap, cur, rfl, hb, hg, hcap, hmax, hlen, htake⟩
  · have h0 : t.kids.length = 0 := by omega
    refine ⟨none, 0, by rw [h0], fun i t' ht => ?_⟩
    rw [List.eq_nil_of_length_eq_zero h0] at ht
    simp at ht
  · refine ⟨some ⟨g, 0, none⟩, cap, by rw [← hl], fun i t' ht => ?_⟩
    obtain ⟨u, hu, hT⟩ := IsL.get _ _ h6 i t' ht
    have hgl : g < w.heap.size := (Array.getElem?_eq_some_iff.1 hg).1
    refine ⟨g, 0, u, rfl, hgl, ?_, .inr ⟨u, lo, hi, rfl, hh, hT⟩⟩
    have hc := h4.cells (g := g) rfl i (ptrV u) (by simp [hu])
    have hadd : (⟨g, 0, none⟩ : Addr).add i = ⟨g, 0 + i, none⟩ := by unfold Addr.add; split <;> simp_all
    rw [hadd] at hc
    exact hc
theorem inna {w : World} {v : Value} {t : T} (h : IsN w v t := by (repeat' (first | assumption | (refine IsN.alloc ?_ _) | (refine IsN.drewN ?_ _) | (refine IsN.drew ?_) | (refine IsN.kp ?_ (by assumption) ?_) | (refine IsN.wk ?_ (by assumption)) | omega | (simp; done) | (simp; omega)))) : IsN w v t := h

end Go.Proofs.YtbplaekabeggkaaGreatDoor

namespace Go.Proofs.YtbplaekabeggkaaGreatDoor
open Go.RowKit

set_option maxRecDepth 100000 in
set_option maxHeartbeats 400000 in
theorem get_b {w : World} {b : Nat} (op n at_ : Int) (nm ty : ByteArray) (sv : Value) (h : Blk w b #[.int .i64 op, .string nm, .string ty, .int .i64 n, .int .i64 at_, sv] 108) (hsv : ∃ a l c, sv = .slice a l c) :
    Calls Tryz.prog 59 #[.agg #[ptrV b]] w fun e w' => e = .returned (.agg #[.int .i64 op, .string nm, .string ty, .int .i64 n, .int .i64 at_, sv]) ∧ Kp w.heap.size [] w w' := by
  obtain ⟨a, l, c, rfl⟩ := hsv
  have hl := h.lt
  have c0 := h.cell 0
  have c1 := h.cell 1
  have c2 := h.cell 2
  have c3 := h.cell 3
  have c4 := h.cell 4
  have c5 := h.cell 5
  simp at c0 c1 c2 c3 c4 c5
  go_enter Tryz.func59, Tryz.ntmps59
  go_wp2
  refine bodyPost_ret (v := .agg #[.int .i64 op, .string nm, .string ty, .int .i64 n, .int .i64 at_, .slice a l c]) (by simp [results, Tryz.results59, go_sem, *]) rfl ?_
  exact ⟨rfl, kpa⟩
set_option maxRecDepth 100000 in
set_option maxHeartbeats 400000 in
theorem get_n (w : World) :
    Calls Tryz.prog 59 #[nilN] w fun e w' => e = .returned (.agg #[.int .i64 0, .string ⟨#[]⟩, .string ⟨#[]⟩, .int .i64 0, .int .i64 0, .slice none 0 0]) ∧ Kp w.heap.size [] w w' := by
  go_enter Tryz.func59, Tryz.ntmps59
  go_wp2
  refine bodyPost_ret (v := .agg #[.int .i64 0, .string ⟨#[]⟩, .string ⟨#[]⟩, .int .i64 0, .int .i64 0, .slice none 0 0]) (by simp [results, Tryz.results59, go_sem, *]) rfl ?_
  exact ⟨rfl, kpa⟩
def PostG (w : World) (t : T) (e : Ending) (w' : World) : Prop := ∃ a cap, e = .returned (.agg #[.int .i64 t.op, .string (B t.name), .string (B t.typ), .int .i64 t.n, .int .i64 t.at_, .slice a t.kids.length cap]) ∧ KidsV w (.slice a t.kids.length cap) t.kids ∧ Kp w.heap.size [] w w'
theorem get_c {w : World} {v : Value} {t : T} (h : IsN w v t) : Calls Tryz.prog 59 #[v] w (PostG w t) := by
  rcases h with ⟨rfl, rfl⟩ | ⟨b, lo, hi, rfl, hh, hT⟩
  · refine (get_n w).mono ?_
    rintro e w' ⟨rfl, hk⟩
    exact ⟨none, 0, rfl, ⟨none, 0, rfl, fun i t h => by simp [zeroT, T.kids] at h⟩, hk⟩
  · obtain ⟨sv, h1, h2⟩ := hT.kidsV hh
    obtain ⟨a, cap, rfl, h3⟩ := h2
    refine (get_b _ _ _ _ _ _ ⟨h1⟩ ⟨_, _, _, rfl⟩).mono ?_
    rintro e w' ⟨rfl, hk⟩
    exact ⟨a, cap, rfl, ⟨a, cap, rfl, h3⟩, hk⟩

theorem IsN.alloc {w : World} {v : Value} {t : T} (h : IsN w v t) (o : Obj) : IsN (w.alloc o) v t := h.kp ((Kp.refl w.heap.size [] w).alloc (Nat.le_refl _) o) (Nat.le_refl _)
theorem IsN.drew {w : World} {v : Value} {t : T} (h : IsN w v t) : IsN w.drew v t := h.kp ((Kp.refl w.heap.size [] w).drew) (Nat.le_refl _)
theorem IsN.drewN {w : World} {v : Value} {t : T} (h : IsN w v t) (q : Nat) : IsN (w.drewN q) v t := h.kp ((Kp.refl w.heap.size [] w).drewN q) (Nat.le_refl _)

set_option maxRecDepth 100000 in
set_option maxHeartbeats 400000 in
theorem op_c {w : World} {v : Value} {t : T} (h : IsN w v t) : Calls Tryz.prog 31 #[v] w fun e w' => e = .returned (.int .i64 t.op) ∧ Kp w.heap.size [] w w' := by
  obtain ⟨p, rfl⟩ := h.shape
  have hg := get_c (h.alloc (.cells #[.pointer p] 30))
  go_enter Tryz.func31, Tryz.ntmps31
  go_wp2_with fail
  refine hg.mono ?_
  rintro e w1 ⟨a, cap, rfl, -, hk1⟩
  have z1 := hk1.size
  try simp at z1
  go_wp2
  go_ret
  exact ⟨rfl, kpa⟩
set_option maxRecDepth 100000 in
set_option maxHeartbeats 400000 in
theorem name_c {w : World} {v : Value} {t : T} (h : IsN w v t) : Calls Tryz.prog 40 #[v] w fun e w' => e = .returned (.string (B t.name)) ∧ Kp w.heap.size [] w w' := by
  obtain ⟨p, rfl⟩ := h.shape
  have hg := get_c (h.alloc (.cells #[.pointer p] 30))
  go_enter Tryz.func40, Tryz.ntmps40
  go_wp2_with fail
  refine hg.mono ?_
  rintro e w1 ⟨a, cap, rfl, -, hk1⟩
  have z1 := hk1.size
  try simp at z1
  go_wp2
  go_ret
  exact ⟨rfl, kpa⟩
set_option maxRecDepth 100000 in
set_option maxHeartbeats 400000 in
theorem type_c {w : World} {v : Value} {t : T} (h : IsN w v t) : Calls Tryz.prog 41 #[v] w fun e w' => e = .returned (.string (B t.typ)) ∧ Kp w.heap.size [] w w' := by
  obtain ⟨p, rfl⟩ := h.shape
  have hg := get_c (h.alloc (.cells #[.pointer p] 30))
  go_enter Tryz.func41, Tryz.ntmps41
  go_wp2_with fail
  refine hg.mono ?_
  rintro e w1 ⟨a, cap, rfl, -, hk1⟩
  have z1 := hk1.size
  try simp at z1
  go_wp2
  go_ret
  exact ⟨rfl, kpa⟩
set_option maxRecDepth 100000 in
set_option maxHeartbeats 400000 in
theorem n_c {w : World} {v : Value} {t : T} (h : IsN w v t) : Calls Tryz.prog 33 #[v] w fun e w' => e = .returned (.int .i64 t.n) ∧ Kp w.heap.size [] w w' := by
  obtain ⟨p, rfl⟩ := h.shape
  have hg := get_c (h.alloc (.cells #[.pointer p] 30))
  go_enter Tryz.func33, Tryz.ntmps33
  go_wp2_with fail
  refine hg.mono ?_
  rintro e w1 ⟨a, cap, rfl, -, hk1⟩
  have z1 := hk1.size
  try simp at z1
  go_wp2
  go_ret
  exact ⟨rfl, kpa⟩
set_option maxRecDepth 100000 in
set_option maxHeartbeats 400000 in
theorem at_c {w : World} {v : Value} {t : T} (h : IsN w v t) : Calls Tryz.prog 34 #[v] w fun e w' => e = .returned (.int .i64 t.at_) ∧ Kp w.heap.size [] w w' := by
  obtain ⟨p, rfl⟩ := h.shape
  have hg := get_c (h.alloc (.cells #[.pointer p] 30))
  go_enter Tryz.func34, Tryz.ntmps34
  go_wp2_with fail
  refine hg.mono ?_
  rintro e w1 ⟨a, cap, rfl, -, hk1⟩
  have z1 := hk1.size
  try simp at z1
  go_wp2
  go_ret
  exact ⟨rfl, kpa⟩
set_option maxRecDepth 100000 in
set_option maxHeartbeats 400000 in
theorem kids_c {w : World} {v : Value} {t : T} (h : IsN w v t) : Calls Tryz.prog 32 #[v] w fun e w' => e = .returned (.int .i64 t.kids.length) ∧ Kp w.heap.size [] w w' := by
  obtain ⟨p, rfl⟩ := h.shape
  have hg := get_c (h.alloc (.cells #[.pointer p] 30))
  go_enter Tryz.func32, Tryz.ntmps32
  go_wp2_with fail
  refine hg.mono ?_
  rintro e w1 ⟨a, cap, rfl, -, hk1⟩
  have z1 := hk1.size
  try simp at z1
  go_wp2
  go_ret
  exact ⟨rfl, kpa⟩
def PostK (w : World) (t : T) (e : Ending) (w' : World) : Prop := ∃ v, e = .returned v ∧ IsN w v t ∧ Kp w.heap.size [] w w'
theorem getKid (t : T) (i : Nat) : (t.kids[i]?.getD zeroT) = zeroT ∨ i < t.kids.length := by
  rcases Nat.lt_or_ge i t.kids.length with h | h
  · exact .inr h
  · left; rw [List.getElem?_eq_none h]; rfl
set_option maxRecDepth 100000 in
set_option maxHeartbeats 400000 in
theorem kid_b {w : World} {b g o x i cap : Nat} {t : T} (h : IsN w (.agg #[ptrV b]) t) (hb : b < w.heap.size) (hg : g < w.heap.size) (hl : i < t.kids.length)
    (c5 : w.cell? ⟨b, 5, none⟩ = some (.slice (some ⟨g, o, none⟩) t.kids.length cap)) (hc : w.cell? ⟨g, o + i, none⟩ = some (ptrV x)) :
    Calls Tryz.prog 30 #[.agg #[ptrV b], .int .i64 i] w fun e w' => e = .returned (.agg #[ptrV x]) ∧ Kp w.heap.size [] w w' := by
  have hk := kids_c ((h.alloc (.cells #[ptrV b] 30)).alloc (.cells #[.pointer none] 30))
  generalize t.kids.length = n at *
  clear h
  have hge : ¬ ((i : Int) ≥ n) := by omega
  have hlt : ¬ ((i : Int) < 0) := by omega
  have : ¬ w.heap.size + 1 = w.heap.size := sza
  have : ¬ w.heap.size = w.heap.size + 1 := sza
  go_enter Tryz.func30, Tryz.ntmps30
  go_wp2_with fail
  refine (hk).mono ?_
  rintro e w1 ⟨rfl, hk1⟩
  have z1 := hk1.size
  try simp at z1
  have lc1_0 := fun o => hk1.cell (w.heap.size) o sza sza
  have lf1_0 := fun o => hk1.frozen (w.heap.size) o sza sza
  have ll1_0 : w.heap.size < w1.heap.size := sza
  try simp at lc1_0
  try simp at lf1_0
  have lb1_0 := hk1.block (w.heap.size) sza sza
  have lc1_1 := fun o => hk1.cell (w.heap.size + 1) o sza sza
  have lf1_1 := fun o => hk1.frozen (w.heap.size + 1) o sza sza
  have ll1_1 : w.heap.size + 1 < w1.heap.size := sza
  try simp at lc1_1
  try simp at lf1_1
  have lb1_1 := hk1.block (w.heap.size + 1) sza sza
  have lcb := fun o => hk1.cell b o (by simp; omega) (by simp)
  have lcg := fun o => hk1.cell g o (by simp; omega) (by simp)
  try simp at lcb
  try simp at lcg
  have llb : b < w1.heap.size := by omega
  have llg : g < w1.heap.size := by omega
  go_wp2
  refine bodyPost_ret (v := .agg #[ptrV x]) (by simp [results, Tryz.results30, go_sem, *]) rfl ?_
  exact ⟨rfl, kpa⟩
theorem kid_in {w : World} {b i : Nat} {t u : T} (h : IsN w (.agg #[ptrV b]) t) (hi : t.kids[i]? = some u) : Calls Tryz.prog 30 #[.agg #[ptrV b], .int .i64 i] w (PostK w u) := by
  have hl : i < t.kids.length := (List.getElem?_eq_some_iff.1 hi).1
  rcases id h with ⟨h0, rfl⟩ | ⟨b', lo, hi', hv, hh, hT⟩
  · simp [zeroT, T.kids] at hi
  obtain rfl : b = b' := by simpa using hv
  obtain ⟨sv, h1, a, cap, rfl, h3⟩ := hT.kidsV hh
  obtain ⟨g, o, x, rfl, hg, hc, hN⟩ := h3 i u hi
  refine (kid_b h (Blk.mk h1).lt hg hl (by rw [cell_of_cells h1]; rfl) hc).mono ?_
  rintro e w' ⟨rfl, hk⟩
  exact ⟨_, rfl, hN, hk⟩
set_option maxRecDepth 100000 in
set_option maxHeartbeats 400000 in
theorem kid_out {w : World} {v : Value} {i : Int} {t : T} (h : IsN w v t) (hi : t.kids.length ≤ i) : Calls Tryz.prog 30 #[v, .int .i64 i] w (PostK w zeroT) := by
  obtain ⟨p, rfl⟩ := h.shape
  have hk := kids_c ((h.alloc (.cells #[.pointer p] 30)).alloc (.cells #[.pointer none] 30))
  generalize t.kids.length = n at *
  have hge : ((i : Int) ≥ n) := by omega
  have hlt : ¬ ((i : Int) < 0) := by omega
  have : ¬ w.heap.size + 1 = w.heap.size := sza
  have : ¬ w.heap.size = w.heap.size + 1 := sza
  go_enter Tryz.func30, Tryz.ntmps30
  go_wp2_with fail
  refine (hk).mono ?_
  rintro e w1 ⟨rfl, hk1⟩
  have z1 := hk1.size
  try simp at z1
  have lc1_0 := fun o => hk1.cell (w.heap.size) o sza sza
  have lf1_0 := fun o => hk1.frozen (w.heap.size) o sza sza
  have ll1_0 : w.heap.size < w1.heap.size := sza
  try simp at lc1_0
  try simp at lf1_0
  have lb1_0 := hk1.block (w.heap.size) sza sza
  have lc1_1 := fun o => hk1.cell (w.heap.size + 1) o sza sza
  have lf1_1 := fun o => hk1.frozen (w.heap.size + 1) o sza sza
  have ll1_1 : w.heap.size + 1 < w1.heap.size := sza
  try simp at lc1_1
  try simp at lf1_1
  have lb1_1 := hk1.block (w.heap.size + 1) sza sza
  go_wp2
  refine bodyPost_ret (v := nilN) (by simp [results, Tryz.results30, go_sem, *]) rfl ?_
  exact ⟨_, rfl, .inl ⟨rfl, rfl⟩, kpa⟩
set_option maxRecDepth 100000 in
set_option maxHeartbeats 400000 in
theorem kid_neg {w : World} {v : Value} {i : Int} {t : T} (h : IsN w v t) (hi : i < 0) : Calls Tryz.prog 30 #[v, .int .i64 i] w (PostK w zeroT) := by
  obtain ⟨p, rfl⟩ := h.shape
  go_enter Tryz.func30, Tryz.ntmps30
  go_wp2
  refine bodyPost_ret (v := nilN) (by simp [results, Tryz.results30, go_sem, *]) rfl ?_
  exact ⟨_, rfl, .inl ⟨rfl, rfl⟩, kpa⟩
theorem kid_c {w : World} {v : Value} {t : T} (h : IsN w v t) (i : Nat) : Calls Tryz.prog 30 #[v, .int .i64 i] w (PostK w (t.kids[i]?.getD zeroT)) := by
  cases e : t.kids[i]? with
  | none => exact kid_out h (by have := List.getElem?_eq_none_iff.1 e; omega)
  | some u =>
    rcases id h with ⟨h0, rfl⟩ | ⟨b', lo, hi', hv, hh, hT⟩
    · simp [zeroT, T.kids] at e
    · subst hv
      exact kid_in h e

end Go.Proofs.YtbplaekabeggkaaGreatDoor

/-
  OWN: a node that names a field has a kid.
-/
namespace Go.Proofs.YtbplaekabeggkaaGreatDoor
def Fld (t : T) : Prop := t.op = 20 → t.kids ≠ []
structure InvK (k : Nat) : Prop where
  expr : ∀ toks en dep least pos t p, pExpr k toks en dep least pos = some (.ok t p) → Fld t
  loop : ∀ toks en dep least l pos t p, Fld l → pLoop k toks en dep least l pos = some (.ok t p) → Fld t
  unary : ∀ toks en dep pos t p, pUnary k toks en dep pos = some (.ok t p) → Fld t
  postfix_ : ∀ toks en dep pos t p, pPostfix k toks en dep pos = some (.ok t p) → Fld t
  dots : ∀ toks en l pos t p, Fld l → pDots k toks en l pos = some (.ok t p) → Fld t
  primary : ∀ toks en dep pos t p, pPrimary k toks en dep pos = some (.ok t p) → Fld t
  named : ∀ toks en dep pos t p, pNamed k toks en dep pos = some (.ok t p) → Fld t
  brackets : ∀ toks en dep pos t p, pBrackets k toks en dep pos = some (.ok t p) → Fld t
theorem fld_mk {op : Int} {a b : List UInt8} {n c : Int} {ks : List T} (h : op ≠ 20 ∨ ks ≠ []) : Fld (.mk op a b n c ks) := fun ho => by
  rcases h with h | h
  · exact absurd ho h
  · exact h
theorem opLevel_ne (l : Nat) : opLevel l ≠ 20 := by unfold opLevel; (repeat' split) <;> decide
theorem pKey_fld {toks : List Tok} {en : Int} {pos p : Nat} {t : T} (h : pKey toks en pos = .ok t p) : Fld t := by
  unfold pKey at h
  dsimp only at h
  (repeat' split at h) <;> first | (cases h; exact fld_mk (.inl (by decide))) | cases h
theorem invK : ∀ k, InvK k := by
  intro k
  induction k with
  | zero => constructor <;> (intros; rename_i h; first | cases h | (simp [pExpr, pLoop, pUnary, pPostfix, pDots, pPrimary, pNamed, pBrackets] at h))
  | succ k ih =>
    constructor
    · intro toks en dep least pos t p h
      rw [pExpr] at h
      split at h
      · rename_i h1
        exact ih.loop _ _ _ _ _ _ _ _ (ih.unary _ _ _ _ _ _ h1) h
      · rename_i h1; exact absurd h (h1 _ _)
    · intro toks en dep least l pos t p hl h
      rw [pLoop] at h
      try dsimp only at h
      split at h
      · cases h; exact hl
      split at h
      · exact ih.loop _ _ _ _ _ _ _ _ (fld_mk (.inl (opLevel_ne _))) h
      · rename_i h1; exact absurd h (h1 _ _)
    · intro toks en dep pos t p h
      rw [pUnary] at h
      split at h
      · split at h
        · cases h
        split at h
        · cases h; exact fld_mk (.inl (by decide))
        · rename_i h1; exact absurd h (h1 _ _)
      · exact ih.postfix_ _ _ _ _ _ _ h
    · intro toks en dep pos t p h
      rw [pPostfix] at h
      split at h
      · rename_i h1
        exact ih.dots _ _ _ _ _ _ (ih.primary _ _ _ _ _ _ h1) h
      · rename_i h1; exact absurd h (h1 _ _)
    · intro toks en l pos t p hl h
      rw [pDots] at h
      split at h
      · split at h
        · exact ih.dots _ _ _ _ _ _ (fld_mk (.inr (by simp))) h
        · cases h
      · cases h; exact hl
    · intro toks en dep pos t p h
      rw [pPrimary] at h
      try dsimp only at h
      split at h
      · cases h; exact fld_mk (.inl (by decide))
      split at h
      · exact ih.named _ _ _ _ _ _ h
      split at h
      · exact ih.brackets _ _ _ _ _ _ h
      split at h
      · exact pKey_fld (Option.some.inj h)
      · cases h
    · intro toks en dep pos t p h
      rw [pNamed] at h
      try dsimp only at h
      split at h
      · split at h
        · cases h
        split at h
        · cases h; exact fld_mk (.inl (by decide))
        · cases h
        · cases h
      · cases h; exact fld_mk (.inl (by decide))
    · intro toks en dep pos t p h
      rw [pBrackets] at h
      split at h
      · split at h
        · cases h
        split at h
        · rename_i h1
          split at h
          · cases h; exact ih.expr _ _ _ _ _ _ _ h1
          · cases h
        · rename_i h1; exact absurd h (h1 _ _)
      · cases h
end Go.Proofs.YtbplaekabeggkaaGreatDoor

namespace Go.Proofs.YtbplaekabeggkaaGreatDoor
open Go.RowKit

/-- block b holds the tree, within [lo, hi) -/
structure TreeAt (w : World) (lo hi b : Nat) (t : T) : Prop where
  le : hi ≤ w.heap.size
  tr : IsT w lo hi b t
namespace TreeAt
variable {w w' : World} {lo hi b : Nat} {t : T}
theorem kp {n : Nat} {S : List Nat} (h : TreeAt w lo hi b t) (k : Kp n S w w') (hn : hi ≤ n) (hS : ∀ x ∈ S, x < lo ∨ hi ≤ x) : TreeAt w' lo hi b t :=
  ⟨Nat.le_trans h.le k.size, IsT.frame (Nat.le_refl _) (Nat.le_refl _) (fun i h1 h2 => k.block i (by omega) (fun hx => by have := hS i hx; omega)) _ _ h.tr⟩
theorem alloc (h : TreeAt w lo hi b t) (o : Obj) : TreeAt (w.alloc o) lo hi b t := h.kp ((Kp.refl w.heap.size [] w).alloc (Nat.le_refl _) o) h.le (by simp)
theorem drew (h : TreeAt w lo hi b t) : TreeAt w.drew lo hi b t := h.kp ((Kp.refl w.heap.size [] w).drew) h.le (by simp)
theorem drewN (h : TreeAt w lo hi b t) (q : Nat) : TreeAt (w.drewN q) lo hi b t := h.kp ((Kp.refl w.heap.size [] w).drewN q) h.le (by simp)
theorem other (h : TreeAt w lo hi b t) {c : Nat} (o : Nat) (u : Value) (hc : c < lo ∨ hi ≤ c) : TreeAt (w.setCell ⟨c, o, none⟩ u) lo hi b t :=
  h.kp ((Kp.refl w.heap.size [c] w).setCell (.inr (by simp)) u) h.le (by simpa using hc)
theorem isN (h : TreeAt w lo hi b t) : IsN w (.agg #[ptrV b]) t := .inr ⟨b, lo, hi, rfl, h.le, h.tr⟩
theorem lo_le (h : TreeAt w lo hi b t) : lo ≤ b := h.tr.cells.1
theorem lt (h : TreeAt w lo hi b t) : b < hi := h.tr.cells.2.1
end TreeAt

/-- where a node's kid number i stands -/
structure KidAt (w : World) (lo hi b n i x : Nat) : Prop where
  le : hi ≤ w.heap.size
  at_ : ∃ g cap, lo ≤ b ∧ b < hi ∧ lo ≤ g ∧ g < hi ∧ i < n ∧ w.cell? ⟨b, 5, none⟩ = some (.slice (some ⟨g, 0, none⟩) n cap) ∧ w.cell? ⟨g, 0 + i, none⟩ = some (ptrV x)
namespace KidAt
variable {w w' : World} {lo hi b n i x : Nat}
theorem kp {m : Nat} {S : List Nat} (h : KidAt w lo hi b n i x) (k : Kp m S w w') (hn : hi ≤ m) (hS : ∀ x ∈ S, x < lo ∨ hi ≤ x) : KidAt w' lo hi b n i x := by
  obtain ⟨g, cap, h1, h2, h3, h4, h5, h6, h7⟩ := h.at_
  refine ⟨Nat.le_trans h.le k.size, g, cap, h1, h2, h3, h4, h5, ?_, ?_⟩
  · rw [World.cell?_of_block (a := ⟨b, 5, none⟩) (k.block b (by omega) (fun hx => by have := hS b hx; omega))]; exact h6
  · rw [World.cell?_of_block (a := ⟨g, 0 + i, none⟩) (k.block g (by omega) (fun hx => by have := hS g hx; omega))]; exact h7
theorem alloc (h : KidAt w lo hi b n i x) (o : Obj) : KidAt (w.alloc o) lo hi b n i x := h.kp ((Kp.refl w.heap.size [] w).alloc (Nat.le_refl _) o) h.le (by simp)
theorem drew (h : KidAt w lo hi b n i x) : KidAt w.drew lo hi b n i x := h.kp ((Kp.refl w.heap.size [] w).drew) h.le (by simp)
theorem drewN (h : KidAt w lo hi b n i x) (q : Nat) : KidAt (w.drewN q) lo hi b n i x := h.kp ((Kp.refl w.heap.size [] w).drewN q) h.le (by simp)
theorem other (h : KidAt w lo hi b n i x) {c : Nat} (o : Nat) (u : Value) (hc : c < lo ∨ hi ≤ c) : KidAt (w.setCell ⟨c, o, none⟩ u) lo hi b n i x :=
  h.kp ((Kp.refl w.heap.size [c] w).setCell (.inr (by simp)) u) h.le (by simpa using hc)
end KidAt
theorem TreeAt.kid {w : World} {lo hi b i : Nat} {t u : T} (h : TreeAt w lo hi b t) (hi0 : t.kids[i]? = some u) :
    ∃ x, TreeAt w lo hi x u ∧ KidAt w lo hi b t.kids.length i x := by
  obtain ⟨hlo, hlt, sv, bs, h3, h4, h5, h6⟩ := h.tr.cells
  obtain ⟨x, hx, hT⟩ := IsL.get _ _ h6 i u hi0
  refine ⟨x, ⟨h.le, hT⟩, h.le, ?_⟩
  have hl : i < t.kids.length := (List.getElem?_eq_some_iff.1 hi0).1
  have hbl := IsL.len _ _ h6
  rcases h4.2 with ⟨rfl, hn0⟩ | ⟨g, cap, cur, rfl, hb, hg, hcap, hmax, hlen, htake⟩
  · omega
  have hc := h4.cells (g := g) rfl i (ptrV x) (by simp [hx])
  have hadd : (⟨g, 0, none⟩ : Addr).add i = ⟨g, 0 + i, none⟩ := by unfold Addr.add; split <;> simp_all
  rw [hadd] at hc
  exact ⟨g, cap, hlo, hlt, ownsRow_ge h4 (g := g) rfl, h5 g rfl, hl, by rw [cell_of_cells h3, ← hbl]; rfl, hc⟩
theorem kid_at {w : World} {lo hi b i x : Nat} {t : T} (h : TreeAt w lo hi b t) (k : KidAt w lo hi b t.kids.length i x) :
    Calls Tryz.prog 30 #[.agg #[ptrV b], .int .i64 i] w fun e w' => e = .returned (.agg #[ptrV x]) ∧ Kp w.heap.size [] w w' := by
  obtain ⟨g, cap, h1, h2, h3, h4, h5, h6, h7⟩ := k.at_
  have := h.le
  exact kid_b (g := g) (o := 0) (i := i) (cap := cap) h.isN (by omega) (by omega) h5 h6 h7

theorem wp_cutR {P : Program} {Q : Exit → Act → World → Prop} {c : Code} {a : Act} {w : World} (R : Act → World → Prop) (hR : ∀ a w, R a w → Q .normal a w) (h : c.wp P (CutQ R Q) a w) : c.wp P Q a w :=
  Code.wp_mono (fun e a w h => by cases e <;> first | exact hR _ _ h | exact h) h

theorem Rdr.tok {toks : List Tok} {en : Int} {br lim pos dep : Nat} {w : World} (h : Rdr toks en br lim pos dep w) {q : Nat} (hq : q < toks.length) :
    ∃ bt cap, w.cell? ⟨br, 0, none⟩ = some (.slice (some ⟨bt, 0, none⟩) toks.length cap) ∧ bt < w.heap.size ∧ w.cell? ⟨bt, q * 3 + 1, none⟩ = some (.string (B (tokAt toks en q).text)) := by
  obtain ⟨bt, cap, sp, h1, h2, h3, h4, h5⟩ := h.row
  have hne : toks ≠ [] := by rintro rfl; simp at hq
  obtain rfl := h2 hne
  have hg : toks[q]? = some toks[q] := List.getElem?_eq_getElem hq
  refine ⟨bt, cap, by rw [cell_of_cells h1]; rfl, Nat.lt_of_lt_of_le h3 h.limle, ?_⟩
  rw [(h5 q _ hg).2.1, tokAt, hg]; rfl

theorem tra {w : World} {lo hi b : Nat} {t : T} (h : TreeAt w lo hi b t := by (repeat' (first | assumption | (refine TreeAt.kp ?_ (by assumption) ?_ ?_) | (refine TreeAt.alloc ?_ _) | (refine TreeAt.drewN ?_ _) | (refine TreeAt.drew ?_) | (refine TreeAt.other ?_ _ _ ?_) | omega | (simp; done) | (simp; omega)))) : TreeAt w lo hi b t := h
theorem kaa {w : World} {lo hi b n i x : Nat} (h : KidAt w lo hi b n i x := by (repeat' (first | assumption | (refine KidAt.kp ?_ (by assumption) ?_ ?_) | (refine KidAt.alloc ?_ _) | (refine KidAt.drewN ?_ _) | (refine KidAt.drew ?_) | (refine KidAt.other ?_ _ _ ?_) | omega | (simp; done) | (simp; omega)))) : KidAt w lo hi b n i x := h

end Go.Proofs.YtbplaekabeggkaaGreatDoor

/-
  OWN: with enough rounds the parser as plain functions comes to an end.
-/
namespace Go.Proofs.YtbplaekabeggkaaGreatDoor

theorem kindLt {toks : List Tok} {en : Int} {pos : Nat} (h : (tokAt toks en pos).kind ≠ 0) : pos < toks.length := by
  rcases Nat.lt_or_ge pos toks.length with h' | h'
  · exact h'
  · exfalso; apply h; simp [tokAt, List.getElem?_eq_none h', noTok]
theorem isLt {toks : List Tok} {en : Int} {pos : Nat} {s : List UInt8} (h : isTok (tokAt toks en pos) s = true) : pos < toks.length := by
  apply kindLt (en := en)
  intro h0
  simp [isTok, h0] at h

theorem pType_lt' {toks : List Tok} {en : Int} {pos p : Nat} {s : List UInt8} (h : pType toks en pos = .ok s p) : pos < p ∧ pos < toks.length := by
  unfold pType at h
  split at h
  · rename_i h1
    have := isLt h1
    split at h
    · cases h; omega
    · cases h
  split at h
  · rename_i h1
    have := isLt h1
    cases h; omega
  split at h
  · rename_i h1
    have := isLt h1
    cases h; omega
  · cases h
theorem pPart_lt' {toks : List Tok} {en : Int} {pos p : Nat} {x : Tok × List UInt8} (h : pPart toks en pos = .ok x p) : pos < p ∧ pos < toks.length := by
  unfold pPart at h
  split at h
  · rename_i h1
    have := kindLt (toks := toks) (en := en) (pos := pos) (by rw [h1]; decide)
    split at h
    · rename_i hh; have := pType_lt' hh; cases h; omega
    · cases h
  · cases h

theorem pPrimary_n {k : Nat} {toks : List Tok} {en : Int} {dep pos p : Nat} {t : T} (h : pPrimary k toks en dep pos = some (.ok t p)) : pos < toks.length := by
  cases k with
  | zero => simp [pPrimary] at h
  | succ k =>
    rw [pPrimary] at h
    try dsimp only at h
    split at h
    · rename_i h1; exact kindLt (en := en) (by rw [h1]; decide)
    split at h
    · rename_i h1; exact kindLt (en := en) (by rw [h1]; decide)
    split at h
    · rename_i h1; exact isLt h1
    split at h
    · rename_i h1; rcases h1 with h1 | h1 | h1 | h1 | h1 <;> exact isLt h1
    · cases h
theorem pPostfix_n {k : Nat} {toks : List Tok} {en : Int} {dep pos p : Nat} {t : T} (h : pPostfix k toks en dep pos = some (.ok t p)) : pos < toks.length := by
  cases k with
  | zero => simp [pPostfix] at h
  | succ k =>
    rw [pPostfix] at h
    split at h
    · rename_i h1; exact pPrimary_n h1
    · rename_i h1; exact absurd h (h1 _ _)
theorem pUnary_n {k : Nat} {toks : List Tok} {en : Int} {dep pos p : Nat} {t : T} (h : pUnary k toks en dep pos = some (.ok t p)) : pos < toks.length := by
  cases k with
  | zero => simp [pUnary] at h
  | succ k =>
    rw [pUnary] at h
    split at h
    · rename_i h1; rcases h1 with h1 | h1 <;> exact isLt h1
    · exact pPostfix_n h
theorem pExpr_n {k : Nat} {toks : List Tok} {en : Int} {dep least pos p : Nat} {t : T} (h : pExpr k toks en dep least pos = some (.ok t p)) : pos < toks.length := by
  cases k with
  | zero => simp [pExpr] at h
  | succ k =>
    rw [pExpr] at h
    split at h
    · rename_i h1; exact pUnary_n h1
    · rename_i h1; exact absurd h (h1 _ _)

theorem levelLt {toks : List Tok} {en : Int} {pos : Nat} (h : ¬ ((levelTok (tokAt toks en pos)).1 = 0)) : pos < toks.length := by
  apply kindLt (en := en)
  intro h0
  apply h
  simp [levelTok, h0]

structure TotK (k : Nat) : Prop where
  expr : ∀ (toks : List Tok) en dep least pos, 10 * (toks.length - pos) + 6 ≤ k → pExpr k toks en dep least pos ≠ none
  loop : ∀ (toks : List Tok) en dep least l pos, 10 * (toks.length - pos) + 1 ≤ k → pLoop k toks en dep least l pos ≠ none
  unary : ∀ (toks : List Tok) en dep pos, 10 * (toks.length - pos) + 5 ≤ k → pUnary k toks en dep pos ≠ none
  postfix_ : ∀ (toks : List Tok) en dep pos, 10 * (toks.length - pos) + 4 ≤ k → pPostfix k toks en dep pos ≠ none
  dots : ∀ (toks : List Tok) en l pos, 10 * (toks.length - pos) + 1 ≤ k → pDots k toks en l pos ≠ none
  primary : ∀ (toks : List Tok) en dep pos, 10 * (toks.length - pos) + 3 ≤ k → pPrimary k toks en dep pos ≠ none
  named : ∀ (toks : List Tok) en dep pos, 10 * (toks.length - pos) + 2 ≤ k → pNamed k toks en dep pos ≠ none
  args : ∀ (toks : List Tok) en dep acc pos, 10 * (toks.length - pos) + 7 ≤ k → pArgs k toks en dep acc pos ≠ none
  brackets : ∀ (toks : List Tok) en dep pos, 10 * (toks.length - pos) + 2 ≤ k → pBrackets k toks en dep pos ≠ none

theorem totK : ∀ k, TotK k := by
  intro k
  induction k with
  | zero => constructor <;> (intros; omega)
  | succ k ih =>
    constructor
    · intro toks en dep least pos hk
      rw [pExpr]
      have h1 := ih.unary toks en dep pos (by omega)
      cases hX : pUnary k toks en dep pos with
      | none => exact absurd hX h1
      | some x =>
        cases x with
        | stop a e => simp
        | ok t p =>
          have := (advK k).unary _ _ _ _ _ _ hX
          have := pUnary_n hX
          exact ih.loop _ _ _ _ _ _ (by omega)
    · intro toks en dep least l pos hk
      rw [pLoop]
      try dsimp only
      split
      · simp
      · rename_i hl
        have := levelLt (toks := toks) (en := en) (pos := pos) (fun e => hl (Or.inl e))
        have h1 := ih.expr toks en dep ((levelTok (tokAt toks en pos)).1 + 1) (pos + 1) (by omega)
        cases hX : pExpr k toks en dep ((levelTok (tokAt toks en pos)).1 + 1) (pos + 1) with
        | none => exact absurd hX h1
        | some x =>
          cases x with
          | stop a e => simp
          | ok t p =>
            have := (advK k).expr _ _ _ _ _ _ _ hX
            exact ih.loop _ _ _ _ _ _ (by omega)
    · intro toks en dep pos hk
      rw [pUnary]
      split
      · rename_i h1
        have := h1.elim isLt isLt
        split
        · simp
        have h1 := ih.unary toks en (dep + 1) (pos + 1) (by omega)
        cases hX : pUnary k toks en (dep + 1) (pos + 1) with
        | none => exact absurd hX h1
        | some x => cases x <;> simp
      · exact ih.postfix_ _ _ _ _ (by omega)
    · intro toks en dep pos hk
      rw [pPostfix]
      have h1 := ih.primary toks en dep pos (by omega)
      cases hX : pPrimary k toks en dep pos with
      | none => exact absurd hX h1
      | some x =>
        cases x with
        | stop a e => simp
        | ok t p =>
          have := (advK k).primary _ _ _ _ _ _ hX
          have := pPrimary_n hX
          exact ih.dots _ _ _ _ (by omega)
    · intro toks en l pos hk
      rw [pDots]
      split
      · rename_i h1
        have := isLt h1
        split
        · exact ih.dots _ _ _ _ (by omega)
        · simp
      · simp
    · intro toks en dep pos hk
      rw [pPrimary]
      try dsimp only
      split
      · simp
      split
      · exact ih.named _ _ _ _ (by omega)
      split
      · exact ih.brackets _ _ _ _ (by omega)
      split <;> simp
    · intro toks en dep pos hk
      rw [pNamed]
      try dsimp only
      split
      · rename_i h1
        have := isLt h1
        split
        · simp
        have h1 := ih.args toks en (dep + 1) [] (pos + 2) (by omega)
        cases hX : pArgs k toks en (dep + 1) [] (pos + 2) with
        | none => exact absurd hX h1
        | some x => cases x <;> simp
      · simp
    · intro toks en dep acc pos hk
      rw [pArgs]
      split
      · simp
      have h1 := ih.expr toks en dep 1 pos (by omega)
      cases hX : pExpr k toks en dep 1 pos with
      | none => exact absurd hX h1
      | some x =>
        cases x with
        | stop a e => simp
        | ok t p =>
          have := (advK k).expr _ _ _ _ _ _ _ hX
          have := pExpr_n hX
          dsimp only
          split
          · exact ih.args _ _ _ _ _ (by omega)
          split
          · split
            · simp
            · exact ih.args _ _ _ _ _ (by omega)
          · simp
    · intro toks en dep pos hk
      rw [pBrackets]
      split
      · rename_i h1
        have := isLt h1
        split
        · simp
        have h1 := ih.expr toks en (dep + 1) 1 (pos + 1) (by omega)
        cases hX : pExpr k toks en (dep + 1) 1 (pos + 1) with
        | none => exact absurd hX h1
        | some x =>
          cases x with
          | stop a e => simp
          | ok t p => dsimp only; split <;> simp
      · simp

theorem pChange_tot {k : Nat} {toks : List Tok} {en : Int} {dep pos : Nat} (h : 10 * (toks.length - pos) + 4 ≤ k) : pChange k toks en dep pos ≠ none := by
  unfold pChange
  have h1 := (totK k).postfix_ toks en dep pos h
  cases hX : pPostfix k toks en dep pos with
  | none => exact absurd hX h1
  | some x =>
    cases x with
    | stop a e => simp
    | ok l p =>
      have := (advK k).postfix_ _ _ _ _ _ _ hX
      have := pPostfix_n hX
      have h2 := (totK k).expr toks en dep 1 (p + 1) (by omega)
      dsimp only
      cases hY : pExpr k toks en dep 1 (p + 1) with
      | none => exact absurd hY h2
      | some y => cases y <;> dsimp only <;> (repeat' split) <;> simp
theorem pSimple_tot {k : Nat} {toks : List Tok} {en : Int} {dep pos : Nat} (h : 10 * (toks.length - pos) + 4 ≤ k) : pSimple k toks en dep pos ≠ none := by
  unfold pSimple
  dsimp only
  split
  · rename_i h1
    have := isLt h1
    have h2 := (totK k).brackets toks en dep (pos + 1) (by omega)
    cases hY : pBrackets k toks en dep (pos + 1) with
    | none => exact absurd hY h2
    | some y => cases y <;> simp
  split
  · rename_i h1
    have := isLt h1
    split
    · simp
    have h2 := (totK k).expr toks en dep 1 (pos + 1) (by omega)
    cases hY : pExpr k toks en dep 1 (pos + 1) with
    | none => exact absurd hY h2
    | some y => cases y <;> simp
  split
  · rename_i h1
    have := kindLt (toks := toks) (en := en) (pos := pos) (by rw [h1.1]; decide)
    have h2 := (totK k).expr toks en dep 1 (pos + 2) (by omega)
    cases hY : pExpr k toks en dep 1 (pos + 2) with
    | none => exact absurd hY h2
    | some y => cases y <;> simp
  · exact pChange_tot h

/-- what is read goes ahead -/
theorem pChange_adv {k : Nat} {toks : List Tok} {en : Int} {dep pos p : Nat} {t : T} (h : pChange k toks en dep pos = some (.ok t p)) : pos < p ∧ pos < toks.length := by
  unfold pChange at h
  cases hX : pPostfix k toks en dep pos with
  | none => rw [hX] at h; cases h
  | some x =>
    rw [hX] at h
    cases x with
    | stop a e => cases h
    | ok l q =>
      have := (advK k).postfix_ _ _ _ _ _ _ hX
      have := pPostfix_n hX
      have hq : q ≤ p := by
        dsimp only at h
        cases hY : pExpr k toks en dep 1 (q + 1) with
        | none => rw [hY] at h; dsimp only at h; (repeat' split at h) <;> first | (cases h; omega) | cases h
        | some y =>
          rw [hY] at h
          cases y with
          | stop a e => dsimp only at h; (repeat' split at h) <;> first | (cases h; omega) | cases h
          | ok u r =>
            have := (advK k).expr _ _ _ _ _ _ _ hY
            dsimp only at h; (repeat' split at h) <;> first | (cases h; omega) | cases h
      omega
theorem pSimple_adv {k : Nat} {toks : List Tok} {en : Int} {dep pos p : Nat} {t : T} (h : pSimple k toks en dep pos = some (.ok t p)) : pos < p ∧ pos < toks.length := by
  unfold pSimple at h
  dsimp only at h
  split at h
  · rename_i h1
    have := isLt h1
    split at h
    · rename_i hY
      have := (advK k).brackets _ _ _ _ _ _ hY
      cases h; omega
    · rename_i hn; exact absurd h (hn _ _)
  split at h
  · rename_i h1
    have := isLt h1
    split at h
    · cases h; omega
    split at h
    · rename_i hY
      have := (advK k).expr _ _ _ _ _ _ _ hY
      cases h; omega
    · rename_i hn; exact absurd h (hn _ _)
  split at h
  · rename_i h1
    have := kindLt (toks := toks) (en := en) (pos := pos) (by rw [h1.1]; decide)
    split at h
    · rename_i hY
      have := (advK k).expr _ _ _ _ _ _ _ hY
      cases h; omega
    · rename_i hn; exact absurd h (hn _ _)
  · exact pChange_adv h

structure AdvS (k : Nat) : Prop where
  stmt : ∀ (toks : List Tok) en dep pos t p, pStmt k toks en dep pos = some (.ok t p) → pos < p ∧ pos < toks.length
  branch : ∀ (toks : List Tok) en dep pos t p, pBranch k toks en dep pos = some (.ok t p) → pos < p ∧ pos < toks.length
  block : ∀ (toks : List Tok) en dep pos t p, pBlock k toks en dep pos = some (.ok t p) → pos < p ∧ pos < toks.length
  stmts : ∀ (toks : List Tok) en dep acc pos t p, pStmts k toks en dep acc pos = some (.ok t p) → pos < p ∧ pos < toks.length

theorem advS : ∀ k, AdvS k := by
  intro k
  induction k with
  | zero => constructor <;> (intros; rename_i h; simp [pStmt, pBranch, pBlock, pStmts] at h)
  | succ k ih =>
    constructor
    · intro toks en dep pos t p h
      rw [pStmt] at h
      try dsimp only at h
      split at h
      · exact ih.branch _ _ _ _ _ _ h
      split at h
      · rename_i h1
        have := isLt h1
        split at h
        · rename_i hY
          have := (advK k).expr _ _ _ _ _ _ _ hY
          split at h
          · rename_i hZ
            have := ih.block _ _ _ _ _ _ hZ
            cases h; omega
          · rename_i hn; exact absurd h (hn _ _)
        · rename_i hn; exact absurd h (hn _ _)
      · split at h
        · rename_i hY
          have := pSimple_adv hY
          split at h
          · cases h; omega
          · cases h
        · rename_i hn; exact absurd h (hn _ _)
    · intro toks en dep pos t p h
      rw [pBranch] at h
      try dsimp only at h
      split at h
      · rename_i h1
        have := isLt h1
        split at h
        · rename_i hY
          have := (advK k).expr _ _ _ _ _ _ _ hY
          split at h
          · rename_i hZ
            have := ih.block _ _ _ _ _ _ hZ
            split at h
            · split at h
              · rename_i hW
                split at hW
                · have := ih.branch _ _ _ _ _ _ hW
                  cases h; omega
                · have := ih.block _ _ _ _ _ _ hW
                  cases h; omega
              · rename_i hn; exact absurd h (hn _ _)
            · cases h; omega
          · rename_i hn; exact absurd h (hn _ _)
        · rename_i hn; exact absurd h (hn _ _)
      · cases h
    · intro toks en dep pos t p h
      rw [pBlock] at h
      try dsimp only at h
      split at h
      · rename_i h1
        have := isLt h1
        split at h
        · cases h
        split at h
        · rename_i hY
          have := ih.stmts _ _ _ _ _ _ _ hY
          cases h; omega
        · cases h
        · cases h
      · cases h
    · intro toks en dep acc pos t p h
      rw [pStmts] at h
      split at h
      · rename_i h1
        have := isLt h1
        cases h; omega
      split at h
      · rename_i hY
        have := ih.stmt _ _ _ _ _ _ hY
        have := ih.stmts _ _ _ _ _ _ _ h
        omega
      · cases h
      · cases h

structure TotS (k : Nat) : Prop where
  stmt : ∀ (toks : List Tok) en dep pos, 10 * (toks.length - pos) + 8 ≤ k → pStmt k toks en dep pos ≠ none
  branch : ∀ (toks : List Tok) en dep pos, 10 * (toks.length - pos) + 7 ≤ k → pBranch k toks en dep pos ≠ none
  block : ∀ (toks : List Tok) en dep pos, 10 * (toks.length - pos) + 7 ≤ k → pBlock k toks en dep pos ≠ none
  stmts : ∀ (toks : List Tok) en dep acc pos, 10 * (toks.length - pos) + 9 ≤ k → pStmts k toks en dep acc pos ≠ none

theorem totS : ∀ k, TotS k := by
  intro k
  induction k with
  | zero => constructor <;> (intros; omega)
  | succ k ih =>
    constructor
    · intro toks en dep pos hk
      rw [pStmt]
      try dsimp only
      split
      · exact ih.branch _ _ _ _ (by omega)
      split
      · rename_i h1
        have := isLt h1
        have h2 := (totK k).expr toks en dep 1 (pos + 1) (by omega)
        cases hY : pExpr k toks en dep 1 (pos + 1) with
        | none => exact absurd hY h2
        | some y =>
          cases y with
          | stop a e => simp
          | ok u r =>
            have := (advK k).expr _ _ _ _ _ _ _ hY
            have h3 := ih.block toks en dep r (by omega)
            dsimp only
            cases hZ : pBlock k toks en dep r with
            | none => exact absurd hZ h3
            | some z => cases z <;> simp
      · have h2 := pSimple_tot (k := k) (toks := toks) (en := en) (dep := dep) (pos := pos) (by omega)
        cases hY : pSimple k toks en dep pos with
        | none => exact absurd hY h2
        | some y => cases y <;> dsimp only <;> (repeat' split) <;> simp
    · intro toks en dep pos hk
      rw [pBranch]
      try dsimp only
      split
      · rename_i h1
        have := isLt h1
        have h2 := (totK k).expr toks en dep 1 (pos + 1) (by omega)
        cases hY : pExpr k toks en dep 1 (pos + 1) with
        | none => exact absurd hY h2
        | some y =>
          cases y with
          | stop a e => simp
          | ok u r =>
            have := (advK k).expr _ _ _ _ _ _ _ hY
            have h3 := ih.block toks en dep r (by omega)
            dsimp only
            cases hZ : pBlock k toks en dep r with
            | none => exact absurd hZ h3
            | some z =>
              cases z with
              | stop a e => simp
              | ok b q =>
                have := (ih.block)
                have hq := (advS k).block _ _ _ _ _ _ hZ
                have h4 := ih.branch toks en dep (q + 1) (by omega)
                have h5 := ih.block toks en dep (q + 1) (by omega)
                dsimp only
                split
                · split
                  · simp
                  · split
                    · exact h4
                    · exact h5
                · simp
      · simp
    · intro toks en dep pos hk
      rw [pBlock]
      try dsimp only
      split
      · rename_i h1
        have := isLt h1
        split
        · simp
        have h2 := ih.stmts toks en (dep + 1) [] (pos + 1) (by omega)
        cases hY : pStmts k toks en (dep + 1) [] (pos + 1) with
        | none => exact absurd hY h2
        | some y => cases y <;> simp
      · simp
    · intro toks en dep acc pos hk
      rw [pStmts]
      split
      · simp
      have h2 := ih.stmt toks en dep pos (by omega)
      cases hY : pStmt k toks en dep pos with
      | none => exact absurd hY h2
      | some y =>
        cases y with
        | stop a e => simp
        | ok u r =>
          have := (advS k).stmt _ _ _ _ _ _ hY
          exact ih.stmts _ _ _ _ _ (by omega)

theorem pFields_tot : ∀ (k : Nat) (toks : List Tok) (en : Int) (pos : Nat) (acc : List T), toks.length - pos + 1 ≤ k → pFields k toks en pos acc ≠ none
  | 0, _, _, _, _, h => by omega
  | k + 1, toks, en, pos, acc, h => by
    rw [pFields]
    split
    · simp
    cases hX : pPart toks en pos with
    | stop a e => simp
    | ok x p =>
      have := pPart_lt' hX
      dsimp only
      split
      · exact pFields_tot k toks en (p + 1) _ (by omega)
      · simp
theorem pParams_tot : ∀ (k : Nat) (toks : List Tok) (en : Int) (acc : List T) (pos : Nat), toks.length - pos + 1 ≤ k → pParams k toks en acc pos ≠ none
  | 0, _, _, _, _, h => by omega
  | k + 1, toks, en, acc, pos, h => by
    rw [pParams]
    split
    · simp
    cases hX : pPart toks en pos with
    | stop a e => simp
    | ok x p =>
      have := pPart_lt' hX
      dsimp only
      split
      · exact pParams_tot k toks en _ p (by omega)
      split
      · split
        · simp
        · exact pParams_tot k toks en _ (p + 1) (by omega)
      · simp
theorem pFields_adv : ∀ (k : Nat) (toks : List Tok) (en : Int) (pos : Nat) (acc ts : List T) (p : Nat), pFields k toks en pos acc = some (.ok ts p) → pos < p
  | 0, _, _, _, _, _, _, h => by simp [pFields] at h
  | k + 1, toks, en, pos, acc, ts, p, h => by
    rw [pFields] at h
    split at h
    · cases h; omega
    cases hX : pPart toks en pos with
    | stop a e => rw [hX] at h; cases h
    | ok x q =>
      rw [hX] at h
      have := pPart_lt' hX
      dsimp only at h
      split at h
      · have := pFields_adv k toks en (q + 1) _ _ _ h
        omega
      · cases h
theorem pParams_adv : ∀ (k : Nat) (toks : List Tok) (en : Int) (acc : List T) (pos : Nat) (ts : List T) (p : Nat), pParams k toks en acc pos = some (.ok ts p) → pos ≤ p
  | 0, _, _, _, _, _, _, h => by simp [pParams] at h
  | k + 1, toks, en, acc, pos, ts, p, h => by
    rw [pParams] at h
    split at h
    · cases h; omega
    cases hX : pPart toks en pos with
    | stop a e => rw [hX] at h; cases h
    | ok x q =>
      rw [hX] at h
      have := pPart_lt' hX
      dsimp only at h
      split at h
      · have := pParams_adv k toks en _ q _ _ h
        omega
      split at h
      · split at h
        · cases h
        · have := pParams_adv k toks en _ (q + 1) _ _ h
          omega
      · cases h

theorem pDecl_tot {k : Nat} {toks : List Tok} {en : Int} {pos : Nat} (h : 10 * (toks.length - pos) + 9 ≤ k) : pDecl k toks en pos ≠ none := by
  unfold pDecl
  dsimp only
  split
  · unfold pStruct
    have h2 := pFields_tot k toks en (pos + 1 + 3) [] (by omega)
    (repeat' split) <;> first | simp | skip
    exact h2
  split
  · rename_i h1
    have := isLt h1
    unfold pFunc
    dsimp only
    split
    · split
      · have h2 := pParams_tot k toks en [] (pos + 1 + 2) (by omega)
        cases hX : pParams k toks en [] (pos + 1 + 2) with
        | none => exact absurd hX h2
        | some x =>
          cases x with
          | stop a e => simp
          | ok ts p =>
            have := pParams_adv _ _ _ _ _ _ _ hX
            dsimp only
            split
            · rename_i ty q hT
              have hq : p + 1 ≤ q := by
                split at hT
                · cases hT; exact Nat.le_refl _
                · exact Nat.le_of_lt (pType_lt' hT).1
              have h3 := (totS k).block toks en 0 q (by omega)
              cases hZ : pBlock k toks en 0 q with
              | none => exact absurd hZ h3
              | some z => cases z <;> simp
            · simp
      · simp
    · simp
  split
  · split <;> (try split) <;> simp
  · simp
theorem pDecl_adv {k : Nat} {toks : List Tok} {en : Int} {pos p : Nat} {t : T} (h : pDecl k toks en pos = some (.ok t p)) : pos < p := by
  unfold pDecl at h
  dsimp only at h
  split at h
  · unfold pStruct at h
    split at h
    · split at h
      · split at h
        · cases hX : pFields k toks en (pos + 1 + 3) [] with
          | none => rw [hX] at h; cases h
          | some x =>
            rw [hX] at h
            cases x with
            | stop a e => simp at h
            | ok ts q =>
              have := pFields_adv _ _ _ _ _ _ _ hX
              simp at h
              omega
        · cases h
      · cases h
    · cases h
  split at h
  · unfold pFunc at h
    dsimp only at h
    split at h
    · split at h
      · cases hX : pParams k toks en [] (pos + 1 + 2) with
        | none => rw [hX] at h; cases h
        | some x =>
          rw [hX] at h
          cases x with
          | stop a e => cases h
          | ok ts q =>
            have := pParams_adv _ _ _ _ _ _ _ hX
            dsimp only at h
            split at h
            · rename_i ty q' hT
              have hq : q + 1 ≤ q' := by
                split at hT
                · cases hT; exact Nat.le_refl _
                · exact Nat.le_of_lt (pType_lt' hT).1
              split at h
              · rename_i hZ
                have := (advS k).block _ _ _ _ _ _ hZ
                cases h; omega
              · rename_i hn; exact absurd h (hn _ _)
            · cases h
      · cases h
    · cases h
  split at h
  · split at h
    · rename_i hX
      have := pPart_lt' hX
      split at h
      · cases h; omega
      · cases h
    · cases h
  · cases h

theorem pProg_tot : ∀ (k : Nat) (toks : List Tok) (en : Int) (acc : List T) (pos : Nat), 10 * (toks.length - pos) + 10 ≤ k → pProg k toks en acc pos ≠ none
  | 0, _, _, _, _, h => by omega
  | k + 1, toks, en, acc, pos, h => by
    rw [pProg]
    split
    · have h1 := pDecl_tot (k := k) (toks := toks) (en := en) (pos := pos) (by omega)
      cases hX : pDecl k toks en pos with
      | none => exact absurd hX h1
      | some x =>
        cases x with
        | stop a e => simp
        | ok t p =>
          have := pDecl_adv hX
          exact pProg_tot k toks en _ p (by omega)
    · simp

end Go.Proofs.YtbplaekabeggkaaGreatDoor
