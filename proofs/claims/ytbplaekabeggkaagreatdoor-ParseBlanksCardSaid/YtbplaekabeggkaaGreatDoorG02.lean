/- PROVED: the law ParseBlanks of layer 4 answers true for every string, as its given card says (the listed package variables as the program lays them); no other condition. The parser, the lexer and the writer of the awake test are walked whole. Text 2 of 16. -/
import Derived.Test.YtbplaekabeggkaaGreatDoorG01
import Derived.Deep.AppendLies
import Derived.Deep.LoopGhost
set_option linter.unusedSimpArgs false
set_option linter.unusedVariables false
namespace Go.Proofs.YtbplaekabeggkaaGreatDoor
open Go.RowKit

@[reducible] def ptrV (b : Nat) : Value := .pointer (some ⟨b, 0, none⟩)

mutual
/-- block b holds the tree; all of it lies in [lo, hi) -/
def IsT (w : World) (lo hi : Nat) (b : Nat) : T → Prop
  | .mk op name typ n at_ kids => lo ≤ b ∧ b < hi ∧ ∃ sv bs, w.heap[b]? = some (.cells #[.int .i64 op, .string (B name), .string (B typ), .int .i64 n, .int .i64 at_, sv] 108 (0, 0)) ∧
      w.ownsRow lo 30 1 sv bs.length (bs.map ptrV) ∧ (∀ g, sv.ownBlock = some g → g < hi) ∧ IsL w lo hi bs kids
def IsL (w : World) (lo hi : Nat) : List Nat → List T → Prop
  | [], [] => True
  | b :: bs, t :: ts => IsT w lo hi b t ∧ IsL w lo hi bs ts
  | [], _ :: _ => False
  | _ :: _, [] => False
 end

theorem ownsRow_frame {w w' : World} {base base' e size n : Nat} {v : Value} {xs : List Value} (h : w.ownsRow base e size v n xs) (hb : base' ≤ base)
    (hw : ∀ g, v.ownBlock = some g → w'.heap[g]? = w.heap[g]?) : w'.ownsRow base' e size v n xs := by
  refine ⟨h.1, ?_⟩
  rcases h.2 with hn | ⟨g, cap, cur, rfl, hb', hg, rest⟩
  · exact .inl hn
  · exact .inr ⟨g, cap, cur, rfl, by omega, by rw [hw g rfl]; exact hg, rest⟩

theorem ownsRow_ge {w : World} {base e size n : Nat} {v : Value} {xs : List Value} (h : w.ownsRow base e size v n xs) {g : Nat} (hg : v.ownBlock = some g) : base ≤ g := (h.lt g hg).1

mutual
theorem IsT.frame {w w' : World} {lo hi lo' hi' : Nat} (hlo : lo' ≤ lo) (hhi : hi ≤ hi') (hw : ∀ k, lo ≤ k → k < hi → w'.heap[k]? = w.heap[k]?) : ∀ (t : T) (b : Nat), IsT w lo hi b t → IsT w' lo' hi' b t
  | .mk op name typ n at_ kids, b, h => by
    simp only [IsT] at h ⊢
    obtain ⟨h1, h2, sv, bs, h3, h4, h5, h6⟩ := h
    exact ⟨by omega, by omega, sv, bs, by rw [hw b h1 h2]; exact h3, ownsRow_frame h4 hlo (fun g hg => hw g (ownsRow_ge h4 hg) (h5 g hg)), fun g hg => by have := h5 g hg; omega, IsL.frame hlo hhi hw kids bs h6⟩
theorem IsL.frame {w w' : World} {lo hi lo' hi' : Nat} (hlo : lo' ≤ lo) (hhi : hi ≤ hi') (hw : ∀ k, lo ≤ k → k < hi → w'.heap[k]? = w.heap[k]?) : ∀ (ts : List T) (bs : List Nat), IsL w lo hi bs ts → IsL w' lo' hi' bs ts
  | [], [], _ => by simp [IsL]
  | t :: ts, b :: bs, h => by
    simp only [IsL] at h ⊢
    exact ⟨IsT.frame hlo hhi hw t b h.1, IsL.frame hlo hhi hw ts bs h.2⟩
  | [], _ :: _, h => by simp [IsL] at h
  | _ :: _, [], h => by simp [IsL] at h
 end

/-- kids, each in a stretch of its own that holds none of ex -/
def Kids (w : World) (lo hi : Nat) (ex : List Nat) : List Nat → List T → Prop
  | [], [] => True
  | b :: bs, t :: ts => (∃ l h, lo ≤ l ∧ h ≤ hi ∧ (∀ x ∈ ex, ¬ (l ≤ x ∧ x < h)) ∧ IsT w l h b t) ∧ Kids w lo hi ex bs ts
  | [], _ :: _ => False
  | _ :: _, [] => False

theorem Kids.frame {w w' : World} {lo hi hi' : Nat} {ex ex' : List Nat} (hhi : hi ≤ hi') (hw : ∀ k, lo ≤ k → k < hi → k ∉ ex → w'.heap[k]? = w.heap[k]?) (hex : ∀ x ∈ ex', x ∈ ex ∨ hi ≤ x) : ∀ (ts : List T) (bs : List Nat), Kids w lo hi ex bs ts → Kids w' lo hi' ex' bs ts
  | [], [], _ => by simp [Kids]
  | t :: ts, b :: bs, h => by
    simp only [Kids] at h ⊢
    obtain ⟨⟨l, u, h1, h2, h3, h4⟩, h5⟩ := h
    refine ⟨⟨l, u, h1, by omega, fun x hx => ?_, IsT.frame (Nat.le_refl _) (Nat.le_refl _) (fun k hk hk' => hw k (by omega) (by omega) (fun hx => h3 k hx ⟨hk, hk'⟩)) t b h4⟩, Kids.frame hhi hw hex ts bs h5⟩
    rcases hex x hx with hx | hx
    · exact h3 x hx
    · omega
  | [], _ :: _, h => by simp [Kids] at h
  | _ :: _, [], h => by simp [Kids] at h

theorem Kids.isL {w : World} {lo hi : Nat} {ex : List Nat} : ∀ (ts : List T) (bs : List Nat), Kids w lo hi ex bs ts → IsL w lo hi bs ts
  | [], [], _ => by simp [IsL]
  | t :: ts, b :: bs, h => by
    simp only [Kids, IsL] at h ⊢
    obtain ⟨⟨l, u, h1, h2, h3, h4⟩, h5⟩ := h
    exact ⟨IsT.frame h1 h2 (fun _ _ _ => rfl) t b h4, Kids.isL ts bs h5⟩
  | [], _ :: _, h => by simp [Kids] at h
  | _ :: _, [], h => by simp [Kids] at h

theorem Kids.snoc {w : World} {lo hi l u b : Nat} {t : T} {ex : List Nat} (h1 : lo ≤ l) (h2 : u ≤ hi) (h3 : ∀ x ∈ ex, ¬ (l ≤ x ∧ x < u)) (h4 : IsT w l u b t) : ∀ (ts : List T) (bs : List Nat), Kids w lo hi ex bs ts → Kids w lo hi ex (bs ++ [b]) (ts ++ [t])
  | [], [], _ => by simp [Kids]; exact ⟨l, h1, u, h2, by simpa using h3, h4⟩
  | _ :: ts, _ :: bs, h => by
    simp only [Kids, List.cons_append] at h ⊢
    exact ⟨h.1, Kids.snoc h1 h2 h3 h4 ts bs h.2⟩
  | [], _ :: _, h => by simp [Kids] at h
  | _ :: _, [], h => by simp [Kids] at h

theorem Kids.len {w : World} {lo hi : Nat} {ex : List Nat} : ∀ (ts : List T) (bs : List Nat), Kids w lo hi ex bs ts → bs.length = ts.length
  | [], [], _ => rfl
  | _ :: ts, _ :: bs, h => by simp only [Kids] at h; simp [Kids.len ts bs h.2]
  | [], _ :: _, h => by simp [Kids] at h
  | _ :: _, [], h => by simp [Kids] at h

/-- a node that is being made: its block bd, its kids' row, its kids: all in [lo, the heap's size), none in ex -/
structure NodeB (w : World) (lo : Nat) (ex : List Nat) (bd : Nat) (op : Int) (name typ : ByteArray) (n at_ : Int) (sv : Value) (bs : List Nat) (ts : List T) : Prop where
  lo_le : lo ≤ bd
  lt : bd < w.heap.size
  notin : bd ∉ ex
  cells : w.heap[bd]? = some (.cells #[.int .i64 op, .string name, .string typ, .int .i64 n, .int .i64 at_, sv] 108 (0, 0))
  row : w.ownsRow lo 30 1 sv bs.length (bs.map ptrV) ∧ (∀ g, sv.ownBlock = some g → g < w.heap.size ∧ g ∉ ex ∧ g ≠ bd) ∧
    Kids w lo w.heap.size (bd :: sv.ownBlock.toList ++ ex) bs ts

namespace NodeB
variable {w w' : World} {lo bd : Nat} {ex : List Nat} {op n at_ : Int} {name typ : ByteArray} {sv : Value} {bs : List Nat} {ts : List T}

theorem frame (h : NodeB w lo ex bd op name typ n at_ sv bs ts) (hs : w.heap.size ≤ w'.heap.size) (hw : ∀ k, lo ≤ k → k < w.heap.size → k ∉ ex → w'.heap[k]? = w.heap[k]?) : NodeB w' lo ex bd op name typ n at_ sv bs ts := by
  obtain ⟨h1, h2, h3⟩ := h.row
  refine ⟨h.lo_le, Nat.lt_of_lt_of_le h.lt hs, h.notin, by rw [hw bd h.lo_le h.lt h.notin]; exact h.cells, ?_, fun g hg => ?_, ?_⟩
  · exact ownsRow_frame h1 (Nat.le_refl _) (fun g hg => hw g (ownsRow_ge h1 hg) (h2 g hg).1 (h2 g hg).2.1)
  · have := h2 g hg; exact ⟨by omega, this.2⟩
  · exact Kids.frame hs (fun k hk hk' hx => hw k hk hk' (fun hx' => hx (by simp [hx']))) (fun x hx => .inl hx) ts bs h3

theorem kp {m : Nat} {S : List Nat} (h : NodeB w lo ex bd op name typ n at_ sv bs ts) (k : Kp m S w w') (hm : w.heap.size ≤ m) (hS : ∀ x ∈ S, x < lo) : NodeB w' lo ex bd op name typ n at_ sv bs ts :=
  h.frame k.size (fun i hi hi' _ => k.block i (by omega) (fun hx => by have := hS i hx; omega))

theorem alloc (h : NodeB w lo ex bd op name typ n at_ sv bs ts) (o : Obj) : NodeB (w.alloc o) lo ex bd op name typ n at_ sv bs ts :=
  h.frame (by simp) (fun k _ hk _ => hA_old hk)
theorem drew (h : NodeB w lo ex bd op name typ n at_ sv bs ts) : NodeB w.drew lo ex bd op name typ n at_ sv bs ts := h.frame (Nat.le_refl _) (fun _ _ _ _ => rfl)
theorem drewN (h : NodeB w lo ex bd op name typ n at_ sv bs ts) (q : Nat) : NodeB (w.drewN q) lo ex bd op name typ n at_ sv bs ts := h.frame (Nat.le_refl _) (fun _ _ _ _ => rfl)
theorem setEx (h : NodeB w lo ex bd op name typ n at_ sv bs ts) {b : Nat} (o : Nat) (u : Value) (hb : b ∈ ex ∨ w.heap.size ≤ b ∨ b < lo) : NodeB (w.setCell ⟨b, o, none⟩ u) lo ex bd op name typ n at_ sv bs ts :=
  h.frame (by simp) (fun k hk hk' hx => hS_ne (by rintro rfl; rcases hb with hb | hb | hb <;> first | exact hx hb | omega))

/-- one of its own cells is set: i 0 to 4 -/
theorem setAt (h : NodeB w lo ex bd op name typ n at_ sv bs ts) (i : Nat) (u : Value) {op' n' at' : Int} {name' typ' : ByteArray}
    (hi : (#[.int .i64 op, .string name, .string typ, .int .i64 n, .int .i64 at_, sv] : Array Value).setIfInBounds i u = #[.int .i64 op', .string name', .string typ', .int .i64 n', .int .i64 at', sv]) :
    NodeB (w.setCell ⟨bd, i, none⟩ u) lo ex bd op' name' typ' n' at' sv bs ts := by
  obtain ⟨h1, h2, h3⟩ := h.row
  refine ⟨h.lo_le, by simpa using h.lt, h.notin, by rw [heap_setCell_same h.cells, hi], ?_, by simpa using h2, ?_⟩
  · exact ownsRow_frame h1 (Nat.le_refl _) (fun g hg => hS_ne (h2 g hg).2.2)
  · have := Kids.frame (w' := w.setCell ⟨bd, i, none⟩ u) (Nat.le_refl _) (fun k _ _ hx => hS_ne (fun e => hx (by simp [e]))) (fun x hx => .inl hx) ts bs h3
    simpa using this

/-- one more kid: behind the append and the store of the new row -/
theorem push (h : NodeB w lo ex bd op name typ n at_ sv bs ts) {w1 : World} {b l u g cap : Nat} {t : T}
    (hT : IsT w l u b t) (hl : lo ≤ l) (hu : u ≤ w.heap.size) (hx : ∀ x ∈ bd :: sv.ownBlock.toList ++ ex, ¬ (l ≤ x ∧ x < u)) (hex : ∀ x ∈ ex, x < w.heap.size)
    (how : w1.ownsRow lo 30 1 (.slice (some ⟨g, 0, none⟩) (bs.length + 1) cap) (bs.length + 1) (bs.map ptrV ++ [ptrV b]))
    (hg : w.grownBy w1 sv.ownBlock) (hat : sv.ownBlock = some g ∨ g = w.heap.size) (hlt : g < w1.heap.size) :
    NodeB (w1.setCell ⟨bd, 5, none⟩ (.slice (some ⟨g, 0, none⟩) (bs.length + 1) cap)) lo ex bd op name typ n at_ (.slice (some ⟨g, 0, none⟩) (bs.length + 1) cap) (bs ++ [b]) (ts ++ [t]) := by
  obtain ⟨h1, h2, h3⟩ := h.row
  have hgb : g ≠ bd := by
    rcases hat with hat | hat
    · exact (h2 g hat).2.2
    · have := h.lt; omega
  have hgex : g ∉ ex := by
    rcases hat with hat | hat
    · exact (h2 g hat).2.1
    · intro hh; have := hex g hh; omega
  have hbd : some bd ≠ sv.ownBlock := fun e => (h2 bd e.symm).2.2 rfl
  have hc : w1.heap[bd]? = some (.cells #[.int .i64 op, .string name, .string typ, .int .i64 n, .int .i64 at_, sv] 108 (0, 0)) := by rw [hg.block bd h.lt hbd]; exact h.cells
  refine ⟨h.lo_le, by simp; exact Nat.lt_of_lt_of_le h.lt hg.size, h.notin, by rw [heap_setCell_same hc]; rfl, ?_, ?_, ?_⟩
  · rw [List.length_append, List.map_append]
    exact ownsRow_frame how (Nat.le_refl _) (fun k hk => hS_ne (by simp [Value.ownBlock] at hk; omega))
  · intro k hk
    simp [Value.ownBlock] at hk
    subst hk
    exact ⟨by simpa using hlt, hgex, hgb⟩
  · have hsame : ∀ k, k < w.heap.size → k ∉ (bd :: sv.ownBlock.toList ++ ex) → (w1.setCell ⟨bd, 5, none⟩ (.slice (some ⟨g, 0, none⟩) (bs.length + 1) cap)).heap[k]? = w.heap[k]? := by
      intro k hk hx
      rw [hS_ne (fun e => hx (by simp [e])), hg.block k hk (fun e => hx (by simp [← e]))]
    have hexs : ∀ x ∈ (bd :: (Value.slice (some ⟨g, 0, none⟩) (bs.length + 1) cap).ownBlock.toList ++ ex), x ∈ (bd :: sv.ownBlock.toList ++ ex) ∨ w.heap.size ≤ x := by
      intro x hx
      simp [Value.ownBlock] at hx
      rcases hx with rfl | rfl | hx
      · simp
      · rcases hat with hat | hat
        · left; simp [hat]
        · right; omega
      · left; simp [hx]
    have hsz : w.heap.size ≤ (w1.setCell ⟨bd, 5, none⟩ (.slice (some ⟨g, 0, none⟩) (bs.length + 1) cap)).heap.size := by simpa using hg.size
    refine Kids.snoc hl (Nat.le_trans hu hsz) (fun x hx' => ?_) (IsT.frame (Nat.le_refl _) (Nat.le_refl _) (fun k hk hk' => hsame k (by omega) (fun hxx => hx k hxx ⟨hk, hk'⟩)) t b hT) ts bs ?_
    · rcases hexs x hx' with hh | hh
      · exact hx x hh
      · omega
    · exact Kids.frame hsz (fun k _ hk' hx' => hsame k hk' hx') hexs ts bs h3

theorem hide (h : NodeB w lo ex bd op name typ n at_ sv bs ts) : ∃ sv bs, NodeB w lo ex bd op name typ n at_ sv bs ts := ⟨_, _, h⟩
/-- it is made -/
theorem isT (h : NodeB w lo ex bd op name typ n at_ sv bs ts) {nm ty : List UInt8} (hn : name = B nm) (ht : typ = B ty) : IsT w lo w.heap.size bd (.mk op nm ty n at_ ts) := by
  subst hn ht
  obtain ⟨h1, h2, h3⟩ := h.row
  simp only [IsT]
  exact ⟨h.lo_le, h.lt, sv, bs, h.cells, h1, fun g hg => (h2 g hg).1, Kids.isL ts bs h3⟩

theorem own_ge (h : NodeB w lo ex bd op name typ n at_ sv bs ts) {k : Nat} (hk : sv.ownBlock = some k) : lo ≤ k := ownsRow_ge h.row.1 hk
theorem exne (h : NodeB w lo ex bd op name typ n at_ sv bs ts) {x : Nat} (hx : x ∈ ex) : some x ≠ sv.ownBlock := fun e => (h.row.2.1 x e.symm).2.1 hx
theorem grown5 (h : NodeB w lo ex bd op name typ n at_ sv bs ts) (hg : w.grownBy w' sv.ownBlock) : w'.cell? ⟨bd, 5, none⟩ = some sv ∧ w'.frozen? ⟨bd, 5, none⟩ = false := by
  have hbd : some bd ≠ sv.ownBlock := fun e => (h.row.2.1 bd e.symm).2.2 rfl
  have hc : w'.heap[bd]? = some (.cells #[.int .i64 op, .string name, .string typ, .int .i64 n, .int .i64 at_, sv] 108 (0, 0)) := by rw [hg.block bd h.lt hbd]; exact h.cells
  exact ⟨by rw [cell_of_cells hc]; rfl, frozen_of_cells hc _⟩
theorem outside (h : NodeB w lo ex bd op name typ n at_ sv bs ts) {l : Nat} (hl : w.heap.size ≤ l) (hex : ∀ x ∈ ex, x < w.heap.size) : ∀ u, ∀ x ∈ bd :: sv.ownBlock.toList ++ ex, ¬ (l ≤ x ∧ x < u) := by
  intro u x hx
  simp at hx
  rcases hx with rfl | hx | hx
  · have := h.lt; omega
  · have := (h.row.2.1 x hx).1; omega
  · have := hex x hx; omega
/-- the slots' cells, for the walk -/
theorem cell (h : NodeB w lo ex bd op name typ n at_ sv bs ts) : w.cell? ⟨bd, 5, none⟩ = some sv ∧ w.frozen? ⟨bd, 5, none⟩ = false ∧ w.cell? ⟨bd, 2, none⟩ = some (.string typ) ∧ w.frozen? ⟨bd, 2, none⟩ = false ∧ w.cell? ⟨bd, 3, none⟩ = some (.int .i64 n) ∧ w.frozen? ⟨bd, 3, none⟩ = false ∧ w.cell? ⟨bd, 0, none⟩ = some (.int .i64 op) ∧ w.frozen? ⟨bd, 0, none⟩ = false :=
  ⟨by rw [cell_of_cells h.cells]; rfl, frozen_of_cells h.cells _, by rw [cell_of_cells h.cells]; rfl, frozen_of_cells h.cells _, by rw [cell_of_cells h.cells]; rfl, frozen_of_cells h.cells _, by rw [cell_of_cells h.cells]; rfl, frozen_of_cells h.cells _⟩
end NodeB

/-- a fresh leaf -/
theorem NodeB.leaf {w : World} {lo : Nat} {ex : List Nat} {bd : Nat} {op n at_ : Int} {name typ : ByteArray} (h1 : lo ≤ bd) (h2 : bd < w.heap.size) (h3 : bd ∉ ex)
    (hc : w.heap[bd]? = some (.cells #[.int .i64 op, .string name, .string typ, .int .i64 n, .int .i64 at_, .slice none 0 0] 108 (0, 0))) : NodeB w lo ex bd op name typ n at_ (.slice none 0 0) [] [] :=
  ⟨h1, h2, h3, hc, World.ownsRow_nil _ _ _ _, by simp [Value.ownBlock], by simp [Kids]⟩

/-- a node whose kids stand in a row that was built with them -/
theorem NodeB.built {w : World} {lo : Nat} {ex : List Nat} {bd g : Nat} {op n at_ : Int} {name typ : ByteArray} {bs : List Nat} {ts : List T} (h1 : lo ≤ bd) (h2 : bd < w.heap.size) (h3 : bd ∉ ex) (g1 : lo ≤ g) (g3 : g ∉ ex) (g4 : g ≠ bd)
    (hg : w.heap[g]? = some (.cells (bs.map ptrV).toArray 30 (0, 0))) (hl : bs.length ≤ 100000)
    (hc : w.heap[bd]? = some (.cells #[.int .i64 op, .string name, .string typ, .int .i64 n, .int .i64 at_, .slice (some ⟨g, 0, none⟩) bs.length bs.length] 108 (0, 0)))
    (hk : Kids w lo w.heap.size (bd :: g :: ex) bs ts) : NodeB w lo ex bd op name typ n at_ (.slice (some ⟨g, 0, none⟩) bs.length bs.length) bs ts := by
  have gl : g < w.heap.size := (Array.getElem?_eq_some_iff.1 hg).1
  refine ⟨h1, h2, h3, hc, ⟨by simp, .inr ⟨g, bs.length, _, rfl, g1, hg, Nat.le_refl _, by unfold maxLen; omega, by simp, by simp; exact List.take_of_length_le (by simp)⟩⟩, ?_, ?_⟩
  · intro k hk
    simp [Value.ownBlock] at hk
    subst hk
    exact ⟨gl, g3, g4⟩
  · exact hk

theorem Kids.one {w : World} {lo hi l u b : Nat} {t : T} {ex : List Nat} (h1 : lo ≤ l) (h2 : u ≤ hi) (h3 : ∀ x ∈ ex, ¬ (l ≤ x ∧ x < u)) (h4 : IsT w l u b t) : Kids w lo hi ex [b] [t] :=
  Kids.snoc h1 h2 h3 h4 [] [] (by simp [Kids])
theorem Kids.two {w : World} {lo hi l u b l' u' b' : Nat} {t t' : T} {ex : List Nat} (h1 : lo ≤ l) (h2 : u ≤ hi) (h3 : ∀ x ∈ ex, ¬ (l ≤ x ∧ x < u)) (h4 : IsT w l u b t)
    (h1' : lo ≤ l') (h2' : u' ≤ hi) (h3' : ∀ x ∈ ex, ¬ (l' ≤ x ∧ x < u')) (h4' : IsT w l' u' b' t') : Kids w lo hi ex [b, b'] [t, t'] :=
  Kids.snoc h1' h2' h3' h4' [t] [b] (Kids.one h1 h2 h3 h4)

/-- a local of one cell -/
structure Loc (w : World) (b : Nat) (v : Value) (t : TypeId) : Prop where
  blk : w.heap[b]? = some (.cells #[v] t (0, 0))
namespace Loc
variable {w w' : World} {b : Nat} {v : Value} {t : TypeId}
theorem lt (h : Loc w b v t) : b < w.heap.size := (Array.getElem?_eq_some_iff.1 h.blk).1
theorem cell (h : Loc w b v t) : w.cell? ⟨b, 0, none⟩ = some v := by rw [cell_of_cells h.blk]; rfl
theorem frozen (h : Loc w b v t) : w.frozen? ⟨b, 0, none⟩ = false := frozen_of_cells h.blk _
theorem kp {n : Nat} {S : List Nat} (h : Loc w b v t) (k : Kp n S w w') (hn : b < n) (hS : b ∉ S) : Loc w' b v t := ⟨by rw [k.block b hn hS]; exact h.blk⟩
theorem alloc (h : Loc w b v t) (o : Obj) : Loc (w.alloc o) b v t := ⟨by rw [hA_old h.lt]; exact h.blk⟩
theorem drew (h : Loc w b v t) : Loc w.drew b v t := ⟨h.blk⟩
theorem drewN (h : Loc w b v t) (q : Nat) : Loc (w.drewN q) b v t := ⟨h.blk⟩
theorem other (h : Loc w b v t) {c : Nat} (o : Nat) (u : Value) (hc : ¬ b = c) : Loc (w.setCell ⟨c, o, none⟩ u) b v t := ⟨by rw [hS_ne hc]; exact h.blk⟩
theorem set (h : Loc w b v t) (u : Value) : Loc (w.setCell ⟨b, 0, none⟩ u) b u t := ⟨by rw [heap_setCell_same h.blk]; rfl⟩
theorem new (w : World) (v : Value) (t : TypeId) : Loc (w.alloc (.cells #[v] t)) w.heap.size v t := ⟨hA_new⟩
theorem new' (w : World) (v : Value) (t : TypeId) {b : Nat} (hb : b = w.heap.size) : Loc (w.alloc (.cells #[v] t)) b v t := by subst hb; exact new w v t
theorem grown {row : Option Nat} (h : Loc w b v t) (hg : w.grownBy w' row) (hne : some b ≠ row) : Loc w' b v t := ⟨by rw [hg.block b h.lt hne]; exact h.blk⟩
end Loc

/-- a block known whole -/
structure Blk (w : World) (b : Nat) (c : Array Value) (t : TypeId) : Prop where
  blk : w.heap[b]? = some (.cells c t (0, 0))
namespace Blk
variable {w w' : World} {b : Nat} {v : Array Value} {t : TypeId}
theorem lt (h : Blk w b v t) : b < w.heap.size := (Array.getElem?_eq_some_iff.1 h.blk).1
theorem cell (h : Blk w b v t) (o : Nat) : w.cell? ⟨b, o, none⟩ = v[o]? := cell_of_cells h.blk o
theorem frozen (h : Blk w b v t) (o : Nat) : w.frozen? ⟨b, o, none⟩ = false := frozen_of_cells h.blk _
theorem kp {n : Nat} {S : List Nat} (h : Blk w b v t) (k : Kp n S w w') (hn : b < n) (hS : b ∉ S) : Blk w' b v t := ⟨by rw [k.block b hn hS]; exact h.blk⟩
theorem alloc (h : Blk w b v t) (o : Obj) : Blk (w.alloc o) b v t := ⟨by rw [hA_old h.lt]; exact h.blk⟩
theorem drew (h : Blk w b v t) : Blk w.drew b v t := ⟨h.blk⟩
theorem drewN (h : Blk w b v t) (q : Nat) : Blk (w.drewN q) b v t := ⟨h.blk⟩
theorem other (h : Blk w b v t) {c : Nat} (o : Nat) (u : Value) (hc : ¬ b = c) : Blk (w.setCell ⟨c, o, none⟩ u) b v t := ⟨by rw [hS_ne hc]; exact h.blk⟩
theorem new (w : World) (v : Array Value) (t : TypeId) : Blk (w.alloc (.cells v t)) w.heap.size v t := ⟨hA_new⟩
theorem new' (w : World) (v : Array Value) (t : TypeId) {b : Nat} (hb : b = w.heap.size) : Blk (w.alloc (.cells v t)) b v t := by subst hb; exact new w v t
theorem grown {row : Option Nat} (h : Blk w b v t) (hg : w.grownBy w' row) (hne : some b ≠ row) : Blk w' b v t := ⟨by rw [hg.block b h.lt hne]; exact h.blk⟩
end Blk

theorem Tryz.info30 : (Tryz.prog.info? 30).map (fun i => (i.zero, i.size, i.bytes)) = some (some (.agg #[.pointer none]), 1, 8) := by kernel_rfl
theorem Tryz.under106 : Tryz.prog.underlying 106 = some (.slice 30) := by kernel_rfl

/-- a node is stored into a local -/
theorem st_node {w : World} {o : Oper} {a : Act} {K : Act → World → Prop} {Q : Exit → Act → World → Prop} (s x : Nat) (ho : o.op = .store 30 (.tmp s) (.tmp x)) (n bd : Nat) (v : Value) (hs : a.eval (.tmp s) = ptrV n) (hx : a.eval (.tmp x) = .agg #[ptrV bd])
    (hL : Loc w n v 30) (h : K (a.put o.dst undef) (w.setCell ⟨n, 0, none⟩ (ptrV bd))) : o.wp Tryz.prog a w K Q := by
  unfold Oper.wp execOp
  have hc := hL.cell
  have hf := hL.frozen
  simp only [ho, hs, hx]
  go_simp
  exact h

/-- 'append(n.d.kids, x)' -/
theorem app_node {w : World} {o : Oper} {a : Act} {K : Act → World → Prop} {Q : Exit → Act → World → Prop} (s x : Nat)
    (ho : o.op = .call { callee := .builtin .append, args := #[.tmp s, .tmp x], argTypes := #[106, 106] })
    (base : Nat) (v : Value) (bs : List Nat) (b : Nat) (hs : a.eval (.tmp s) = v) (hown : w.ownsRow base 30 1 v bs.length (bs.map ptrV)) (ad : Addr) (hx : a.eval (.tmp x) = .slice (some ad) 1 1)
    (hnews : w.cell? ad = some (ptrV b)) (hm : bs.length ≤ 100000) (hbase : base ≤ w.heap.size)
    (h : ∀ g cap w', w'.ownsRow base 30 1 (.slice (some ⟨g, 0, none⟩) (bs.length + 1) cap) (bs.length + 1) (bs.map ptrV ++ [ptrV b]) → w.grownBy w' v.ownBlock → (v.ownBlock = some g ∨ g = w.heap.size) → g < w'.heap.size → K (a.put o.dst (.slice (some ⟨g, 0, none⟩) (bs.length + 1) cap)) w') : o.wp Tryz.prog a w K Q := by
  obtain ⟨i0, hi0, hz0, hz1, hz2⟩ := info_parts Tryz.info30
  refine wp_append_lies w _ _ 106 ho base 30 i0 _ 1 8 Tryz.under106 hi0 hz0 hz1 hz2 rfl (by omega) v bs.length _ hs hown ad 1 1 [ptrV b] hx rfl ?_ (by simp [Value.oneCell']) (by omega) (by unfold maxLen; omega) (by omega) hbase _ rfl h
  intro j u hj
  cases j with
  | zero => simp at hj; subst hj; simpa [Addr.add] using hnews
  | succ j => simp at hj

theorem loca {w : World} {b : Nat} {v : Value} {t : TypeId} (h : Loc w b v t := by (repeat' (first | assumption | (refine Loc.new' _ _ _ ?_; first | rfl | (simp; done)) | (refine Loc.set (v := .pointer none) ?_ _) | (refine Loc.other ?_ _ _ ?_) | (refine Loc.alloc ?_ _) | (refine Loc.drewN ?_ _) | (refine Loc.drew ?_) | (refine Loc.kp ?_ (by assumption) ?_ ?_) | (refine Loc.wk ?_ (by assumption) (by decide) (by decide)) | omega | (simp; done) | (simp; omega)))) : Loc w b v t := h
theorem bka {w : World} {b : Nat} {v : Array Value} {t : TypeId} (h : Blk w b v t := by (repeat' (first | assumption | (refine Blk.new' _ _ _ ?_; first | rfl | (simp; done)) | (refine Blk.other ?_ _ _ ?_) | (refine Blk.alloc ?_ _) | (refine Blk.drewN ?_ _) | (refine Blk.drew ?_) | (refine Blk.kp ?_ (by assumption) ?_ ?_) | (refine Blk.wk ?_ (by assumption) (by decide) (by decide)) | omega | (simp; done) | (simp; omega)))) : Blk w b v t := h
theorem nba {w : World} {lo : Nat} {ex : List Nat} {bd : Nat} {op : Int} {name typ : ByteArray} {n at_ : Int} {sv : Value} {bs : List Nat} {ts : List T} (h : NodeB w lo ex bd op name typ n at_ sv bs ts := by (repeat' (first | assumption | (refine NodeB.setEx ?_ _ _ ?_; rotate_left; focus (first | (left; simp; done) | (right; left; first | omega | (simp; done) | (simp; omega)) | (right; right; first | omega | (simp; done) | (simp; omega)))) | (refine NodeB.alloc ?_ _) | (refine NodeB.drewN ?_ _) | (refine NodeB.drew ?_) | (refine NodeB.kp ?_ (by assumption) ?_ ?_) | omega | (simp; done) | (simp; omega)))) : NodeB w lo ex bd op name typ n at_ sv bs ts := h

end Go.Proofs.YtbplaekabeggkaaGreatDoor

namespace Go.Proofs.YtbplaekabeggkaaGreatDoor
open Go.RowKit

theorem pType_lt {toks : List Tok} {en : Int} {pos p : Nat} {s : List UInt8} (h : pType toks en pos = .ok s p) : pos < p := by
  unfold pType at h
  repeat' split at h
  all_goals first | (cases h; omega) | cases h

theorem pPart_lt {toks : List Tok} {en : Int} {pos p : Nat} {x : Tok × List UInt8} (h : pPart toks en pos = .ok x p) : pos < p := by
  unfold pPart at h
  split at h
  · split at h
    · rename_i hh; have := pType_lt hh; cases h; omega
    · cases h
  · cases h

def PostN (toks : List Tok) (en : Int) (br lim dep : Nat) (w : World) (r : Res T) (e : Ending) (w' : World) : Prop :=
  match r with
  | .ok t p => ∃ b, e = .returned (.agg #[ptrV b]) ∧ IsT w' w.heap.size w'.heap.size b t ∧ Rdr toks en br lim p dep w' ∧ Kp w.heap.size [br] w w'
  | .stop a er => e = .panicked (stopV a er) ∧ Kp w.heap.size [br] w w'

set_option maxRecDepth 100000 in
set_option maxHeartbeats 1000000 in
theorem struct_c {toks : List Tok} {en : Int} {br lim pos dep : Nat} {w : World} (hR : Rdr toks en br lim pos dep w) (k : Nat) (r : Res T) (hr : pStruct k toks en pos = some r) :
    Calls Tryz.prog 100 #[.pointer (some ⟨br, 0, none⟩)] w (PostN toks en br lim dep w r) := by
  have hlim := hR.limle
  have hbr := hR.lt
  unfold pStruct at hr
  by_cases g1 : (tokAt toks en pos).kind = 1
  rotate_left
  · rw [if_neg g1] at hr
    cases hr
    go_enter Tryz.func100, Tryz.ntmps100
    go_wp2_with fail
    refine (word_no (hR.alloc _) g1).mono ?_
    rintro e w1 ⟨rfl, hk1⟩
    have z1 := hk1.size
    try simp at z1
    go_wp2
    exact ⟨rfl, rfl, kpa⟩
  rw [if_pos g1] at hr
  have G1 := Lib.hid g1
  clear g1
  by_cases g2 : isTok (tokAt toks en (pos + 1)) kStruct = true
  rotate_left
  · rw [if_neg g2] at hr
    rw [Bool.not_eq_true] at g2
    cases hr
    go_enter Tryz.func100, Tryz.ntmps100
    go_wp2_with fail
    refine (word_yes (hR.alloc _) G1.out).mono ?_
    rintro e w1 ⟨rfl, hr1, hk1⟩
    have z1 := hk1.size
    try simp at z1
    go_wp2_with fail
    refine (node_c _ _ _ _ _ _ _ _).mono ?_
    rintro e w2 ⟨rfl, s2, b2, hk2⟩
    have S2 : w1.heap.size + 3 ≤ w2.heap.size := by omega
    clear s2
    have z2 := hk2.size
    try simp at z2
    go_wp2_with fail
    refine (expect_no (toks := toks) (en := en) (lim := lim) (dep := dep) (pos := pos + 1) (rda) _ (by rw [mk_toList]; exact g2)).mono ?_
    rintro e w3 ⟨rfl, hk3⟩
    have z3 := hk3.size
    try simp at z3
    go_wp2
    exact ⟨rfl, rfl, kpa⟩
  rw [if_pos g2] at hr
  by_cases g3 : isTok (tokAt toks en (pos + 2)) kOpen = true
  rotate_left
  · rw [if_neg g3] at hr
    rw [Bool.not_eq_true] at g3
    cases hr
    go_enter Tryz.func100, Tryz.ntmps100
    go_wp2_with fail
    refine (word_yes (hR.alloc _) G1.out).mono ?_
    rintro e w1 ⟨rfl, hr1, hk1⟩
    have z1 := hk1.size
    try simp at z1
    go_wp2_with fail
    refine (node_c _ _ _ _ _ _ _ _).mono ?_
    rintro e w2 ⟨rfl, s2, b2, hk2⟩
    have S2 : w1.heap.size + 3 ≤ w2.heap.size := by omega
    clear s2
    have z2 := hk2.size
    try simp at z2
    go_wp2_with fail
    refine (expect_yes (toks := toks) (en := en) (lim := lim) (dep := dep) (pos := pos + 1) (rda) _ (by rw [mk_toList]; exact g2)).mono ?_
    rintro e w3 ⟨rfl, hr3, hk3⟩
    have z3 := hk3.size
    try simp at z3
    go_wp2_with fail
    refine (expect_no hr3 _ (by rw [mk_toList]; exact g3)).mono ?_
    rintro e w4 ⟨rfl, hk4⟩
    have z4 := hk4.size
    try simp at z4
    go_wp2
    exact ⟨rfl, rfl, kpa⟩
  rw [if_pos g3] at hr
  cases hM : pFields k toks en (pos + 3) [] with
  | none => rw [hM] at hr; cases hr
  | some q =>
  rw [hM] at hr
  have HM := Lib.hid hM
  clear hM
  have : ¬ w.heap.size = br := sza
  have : ¬ br = w.heap.size := sza
  go_enter Tryz.func100, Tryz.ntmps100
  go_wp2_with fail
  refine (word_yes (hR.alloc _) G1.out).mono ?_
  rintro e w1 ⟨rfl, hr1, hk1⟩
  have z1 := hk1.size
  try simp at z1
  have lc1_0 := fun o => hk1.cell (w.heap.size) o sza sza
  have lf1_0 := fun o => hk1.frozen (w.heap.size) o sza sza
  have ll1_0 : w.heap.size < w1.heap.size := sza
  try simp at lc1_0
  try simp at lf1_0
  have lb1_0 := hk1.block (w.heap.size) sza sza
  go_wp2_with fail
  refine (node_c _ _ _ _ _ _ _ _).mono ?_
  rintro e w2 ⟨rfl, s2, b2, hk2⟩
  have S2 : w1.heap.size + 3 ≤ w2.heap.size := by omega
  clear s2
  have z2 := hk2.size
  try simp at z2
  have lc2_0 := fun o => hk2.cell (w.heap.size) o sza sza
  have lf2_0 := fun o => hk2.frozen (w.heap.size) o sza sza
  have ll2_0 : w.heap.size < w2.heap.size := sza
  try simp at lc2_0
  try simp at lf2_0
  have lb2_0 := hk2.block (w.heap.size) sza sza
  have : ¬ w1.heap.size + 2 = w.heap.size := sza
  have : ¬ w.heap.size = w1.heap.size + 2 := sza
  have : ¬ w1.heap.size + 2 = br := sza
  have : ¬ br = w1.heap.size + 2 := sza
  have : ¬ w2.heap.size = w.heap.size := sza
  have : ¬ w.heap.size = w2.heap.size := sza
  have : ¬ w2.heap.size = w1.heap.size + 2 := sza
  have : ¬ w1.heap.size + 2 = w2.heap.size := sza
  have : ¬ w2.heap.size = br := sza
  have : ¬ br = w2.heap.size := sza
  go_wp2_with fail
  refine (expect_yes (toks := toks) (en := en) (lim := lim) (dep := dep) (pos := pos + 1) (rda) _ (by rw [mk_toList]; exact g2)).mono ?_
  rintro e w3 ⟨rfl, hr3, hk3⟩
  have z3 := hk3.size
  try simp at z3
  have lc3_0 := fun o => hk3.cell (w.heap.size) o sza sza
  have lf3_0 := fun o => hk3.frozen (w.heap.size) o sza sza
  have ll3_0 : w.heap.size < w3.heap.size := sza
  try simp at lc3_0
  try simp at lf3_0
  have lb3_0 := hk3.block (w.heap.size) sza sza
  have lc3_1 := fun o => hk3.cell (w1.heap.size + 2) o sza sza
  have lf3_1 := fun o => hk3.frozen (w1.heap.size + 2) o sza sza
  have ll3_1 : w1.heap.size + 2 < w3.heap.size := sza
  try simp at lc3_1
  try simp at lf3_1
  have lb3_1 := hk3.block (w1.heap.size + 2) sza sza
  have lc3_2 := fun o => hk3.cell (w2.heap.size) o sza sza
  have lf3_2 := fun o => hk3.frozen (w2.heap.size) o sza sza
  have ll3_2 : w2.heap.size < w3.heap.size := sza
  try simp at lc3_2
  try simp at lf3_2
  have lb3_2 := hk3.block (w2.heap.size) sza sza
  go_wp2_with fail
  refine (expect_yes hr3 _ (by rw [mk_toList]; exact g3)).mono ?_
  rintro e w4 ⟨rfl, hr4, hk4⟩
  have z4 := hk4.size
  try simp at z4
  have lc4_0 := fun o => hk4.cell (w.heap.size) o sza sza
  have lf4_0 := fun o => hk4.frozen (w.heap.size) o sza sza
  have ll4_0 : w.heap.size < w4.heap.size := sza
  try simp at lc4_0
  try simp at lf4_0
  have lb4_0 := hk4.block (w.heap.size) sza sza
  have lc4_1 := fun o => hk4.cell (w1.heap.size + 2) o sza sza
  have lf4_1 := fun o => hk4.frozen (w1.heap.size + 2) o sza sza
  have ll4_1 : w1.heap.size + 2 < w4.heap.size := sza
  try simp at lc4_1
  try simp at lf4_1
  have lb4_1 := hk4.block (w1.heap.size + 2) sza sza
  have lc4_2 := fun o => hk4.cell (w2.heap.size) o sza sza
  have lf4_2 := fun o => hk4.frozen (w2.heap.size) o sza sza
  have ll4_2 : w2.heap.size < w4.heap.size := sza
  try simp at lc4_2
  try simp at lf4_2
  have lb4_2 := hk4.block (w2.heap.size) sza sza
  have L0 : Loc w4 w.heap.size (.pointer none) 30 := loca
  have L1 : Loc w4 w2.heap.size (ptrV (w1.heap.size + 2)) 30 := loca
  have N2 : NodeB w2 w.heap.size [w.heap.size, w2.heap.size] (w1.heap.size + 2) 2 (B (tokAt toks en pos).text) ⟨#[]⟩ 0 (tokAt toks en pos).at_ (.slice none 0 0) [] [] := NodeB.leaf (by omega) (by omega) (by simp; omega) b2
  have N4 : NodeB w4 w.heap.size [w.heap.size, w2.heap.size] (w1.heap.size + 2) 2 (B (tokAt toks en pos).text) ⟨#[]⟩ 0 (tokAt toks en pos).at_ (.slice none 0 0) [] [] := nba
  have K4 : Kp w.heap.size [br] w w4 := kpa
  have z4' := K4.size
  have hdec : w2.heap.size < w4.heap.size := L1.lt
  generalize hL : w2.heap.size = nv at *
  generalize hB : w1.heap.size + 2 = bd at *
  clear hL hB
  clear lc1_0 lf1_0 lb1_0 lc2_0 lf2_0 lb2_0 lc3_0 lf3_0 lb3_0 lc3_1 lf3_1 lb3_1 lc3_2 lf3_2 lb3_2 lc4_0 lf4_0 lb4_0 lc4_1 lf4_1 lb4_1 lc4_2 lf4_2 lb4_2 N2 hk1 hk2 hk3 hk4
  go_wp2_with fail
  go_loopg [] k (fun k wr => ∃ p acc sv bs, Go.Aside (pFields k toks en p acc = some q ∧ acc.length ≤ p) ∧ Rdr toks en br lim p dep wr ∧ Loc wr w.heap.size (.pointer none) 30 ∧ Loc wr nv (ptrV bd) 30 ∧
    NodeB wr w.heap.size [w.heap.size, nv] bd 2 (B (tokAt toks en pos).text) ⟨#[]⟩ 0 (tokAt toks en pos).at_ sv bs acc ∧ Kp w.heap.size [br] w wr)
  case atStart => exact ⟨_, _, _, _, ⟨HM.out, by simp⟩, hr4, L0, L1, N4, K4⟩
  case round =>
    obtain ⟨p, acc, sv, bs, A, rR, rL0, rL1, rN, rK⟩ := hrel
    obtain ⟨hA, hAl⟩ := A.out
    have rl0 := rL0.lt
    have rl1 := rL1.lt
    have rz := rK.size
    have rle := rN.lo_le
    clear A HM L0 L1 N4 K4 hr1 hr3 hr4 b2
    cases gk with
    | zero => simp [pFields] at hA
    | succ gk =>
    rw [pFields] at hA
    by_cases c1 : isTok (tokAt toks en p) kClose = true
    · rw [if_pos c1] at hA
      cases hA
      cases hr
      go_wp2_with fail
      refine (accept_yes rR ⟨#[125]⟩ (by rw [mk_toList]; exact c1)).mono ?_
      rintro e w5 ⟨rfl, hr5, hk5⟩
      have z5 := hk5.size
      try simp at z5
      have M0 : Loc w5 w.heap.size (.pointer none) 30 := loca
      have M1 : Loc w5 nv (ptrV bd) 30 := loca
      have MN : NodeB w5 w.heap.size [w.heap.size, nv] bd 2 (B (tokAt toks en pos).text) ⟨#[]⟩ 0 (tokAt toks en pos).at_ sv bs acc := nba
      have m0 := M0.cell
      have m1 := M0.frozen
      have m2 := M1.cell
      go_wp2
      refine bodyPost_ret (v := .agg #[ptrV bd]) (by simp [results, Tryz.results100, go_sem, *]) rfl ?_
      refine ⟨bd, rfl, ?_, rda, kpa⟩
      have MF := MN.setEx (b := w.heap.size) 0 (ptrV bd) (by left; simp)
      exact MF.isT rfl rfl
    · rw [if_neg c1] at hA
      rw [Bool.not_eq_true] at c1
      cases hP : pPart toks en p with
      | stop a er =>
        rw [hP] at hA
        cases hA
        cases hr
        have HP := Lib.hid hP
        clear hP
        go_wp2_with fail
        refine (accept_no rR ⟨#[125]⟩ (by rw [mk_toList]; exact c1)).mono ?_
        rintro e w5 ⟨rfl, hk5⟩
        have z5 := hk5.size
        try simp at z5
        have M1 : Loc w5 nv (ptrV bd) 30 := loca
        have MN : NodeB w5 w.heap.size [w.heap.size, nv] bd 2 (B (tokAt toks en pos).text) ⟨#[]⟩ 0 (tokAt toks en pos).at_ sv bs acc := nba
        have m2 := M1.cell
        obtain ⟨m3, m4, -⟩ := MN.cell
        go_wp2_with fail
        refine wp_region_U (S := (fun W => W.cell? ⟨nv, 0, none⟩ = some (ptrV bd) ∧ W.cell? ⟨bd, 5, none⟩ = some sv)) (F := [11,12,13]) (by kernel_rfl) (by (first | (simp; done) | (simp [World.cell?_setCell_other, World.cell?_alloc_lt, *]; done))) (fun hHeld => ?_)
        refine tkU 0 (v := ?_) rfl (by kernel_rfl) (fun _ _ _ h => h) (Or.inl ⟨by rfl, ?_⟩) (by assumption) ?_
        rotate_left
        · intro w hSw; (try dsimp only at hSw); go_simp; try with_reducible rfl
        try simp only [Act.put, pz]
        refine tkU 1 (v := ?_) rfl (by kernel_rfl) (fun _ _ _ h => h) (Or.inl ⟨by rfl, ?_⟩) (by assumption) ?_
        rotate_left
        · intro w hSw; (try dsimp only at hSw); go_simp; try with_reducible rfl
        try simp only [Act.put, pz]
        refine tkU 2 (v := ?_) rfl (by kernel_rfl) (fun _ _ _ h => h) (Or.inl ⟨by rfl, ?_⟩) (by assumption) ?_
        rotate_left
        · intro w hSw; (try dsimp only at hSw); go_simp; try with_reducible rfl
        try simp only [Act.put, pz]
        refine tkU 3 (v := ?_) rfl (by kernel_rfl) (fun _ _ _ h => h) (Or.inl ⟨by rfl, ?_⟩) (by assumption) ?_
        rotate_left
        · intro w hSw; (try dsimp only at hSw); go_simp; try with_reducible rfl
        try simp only [Act.put, pz]
        refine tkU 4 (v := ?_) rfl (by kernel_rfl) (fun _ _ _ h => h) (Or.inl ⟨by rfl, ?_⟩) (by assumption) ?_
        rotate_left
        · intro w hSw; (try dsimp only at hSw); go_simp; try with_reducible rfl
        try simp only [Act.put, pz]
        refine tkU 5 (v := ?_) rfl (by kernel_rfl) (fun _ _ _ h => h) (Or.inl ⟨by rfl, ?_⟩) (by assumption) ?_
        rotate_left
        · intro w hSw; (try dsimp only at hSw); go_simp; try with_reducible rfl
        try simp only [Act.put, pz]
        refine tkU 6 (v := ?_) rfl (by kernel_rfl) (fun _ _ _ h => h) (Or.inl ⟨by rfl, ?_⟩) (by assumption) ?_
        rotate_left
        · intro w hSw; (try dsimp only at hSw); go_simp; try with_reducible rfl
        try simp only [Act.put, pz]
        refine tkU 7 (v := ?_) rfl (by kernel_rfl) (fun _ _ _ h => h) (Or.inl ⟨by rfl, ?_⟩) (by assumption) ?_
        rotate_left
        · intro w hSw; (try dsimp only at hSw); go_simp; try with_reducible rfl
        try simp only [Act.put, pz]
        refine wpAnyU_one (i := 8) (by kernel_rfl) rfl rfl (fun K hK => ?_)
        go_simp
        refine (part_c (toks := toks) (en := en) (lim := lim) (dep := dep) (pos := p) 5 (rda) _ HP.out).mono ?_
        clear hK
        rintro e w6 ⟨rfl, hk6⟩
        have z6 := hk6.size
        try simp at z6
        go_wp2
        exact ⟨rfl, rfl, kpa⟩
      | ok x p' =>
        rw [hP] at hA
        have HP := Lib.hid hP
        clear hP
        dsimp only at hA
        go_wp2_with fail
        refine (accept_no rR ⟨#[125]⟩ (by rw [mk_toList]; exact c1)).mono ?_
        rintro e w5 ⟨rfl, hk5⟩
        have z5 := hk5.size
        try simp at z5
        have M1 : Loc w5 nv (ptrV bd) 30 := loca
        have MN : NodeB w5 w.heap.size [w.heap.size, nv] bd 2 (B (tokAt toks en pos).text) ⟨#[]⟩ 0 (tokAt toks en pos).at_ sv bs acc := nba
        have m2 := M1.cell
        obtain ⟨m3, m4, -⟩ := MN.cell
        have ml := MN.lt
        have ml1 := M1.lt
        go_wp2_with fail
        refine wp_region_U (S := (fun W => W.cell? ⟨nv, 0, none⟩ = some (ptrV bd) ∧ W.cell? ⟨bd, 5, none⟩ = some sv)) (F := [11,12,13]) (by kernel_rfl) (by (first | (simp; done) | (simp [World.cell?_setCell_other, World.cell?_alloc_lt, *]; done))) (fun hHeld => ?_)
        refine tkU 0 (v := ?_) rfl (by kernel_rfl) (fun _ _ _ h => h) (Or.inl ⟨by rfl, ?_⟩) (by assumption) ?_
        rotate_left
        · intro w hSw; (try dsimp only at hSw); go_simp; try with_reducible rfl
        try simp only [Act.put, pz]
        refine tkU 1 (v := ?_) rfl (by kernel_rfl) (fun _ _ _ h => h) (Or.inl ⟨by rfl, ?_⟩) (by assumption) ?_
        rotate_left
        · intro w hSw; (try dsimp only at hSw); go_simp; try with_reducible rfl
        try simp only [Act.put, pz]
        refine tkU 2 (v := ?_) rfl (by kernel_rfl) (fun _ _ _ h => h) (Or.inl ⟨by rfl, ?_⟩) (by assumption) ?_
        rotate_left
        · intro w hSw; (try dsimp only at hSw); go_simp; try with_reducible rfl
        try simp only [Act.put, pz]
        refine tkU 3 (v := ?_) rfl (by kernel_rfl) (fun _ _ _ h => h) (Or.inl ⟨by rfl, ?_⟩) (by assumption) ?_
        rotate_left
        · intro w hSw; (try dsimp only at hSw); go_simp; try with_reducible rfl
        try simp only [Act.put, pz]
        refine tkU 4 (v := ?_) rfl (by kernel_rfl) (fun _ _ _ h => h) (Or.inl ⟨by rfl, ?_⟩) (by assumption) ?_
        rotate_left
        · intro w hSw; (try dsimp only at hSw); go_simp; try with_reducible rfl
        try simp only [Act.put, pz]
        refine tkU 5 (v := ?_) rfl (by kernel_rfl) (fun _ _ _ h => h) (Or.inl ⟨by rfl, ?_⟩) (by assumption) ?_
        rotate_left
        · intro w hSw; (try dsimp only at hSw); go_simp; try with_reducible rfl
        try simp only [Act.put, pz]
        refine tkU 6 (v := ?_) rfl (by kernel_rfl) (fun _ _ _ h => h) (Or.inl ⟨by rfl, ?_⟩) (by assumption) ?_
        rotate_left
        · intro w hSw; (try dsimp only at hSw); go_simp; try with_reducible rfl
        try simp only [Act.put, pz]
        refine tkU 7 (v := ?_) rfl (by kernel_rfl) (fun _ _ _ h => h) (Or.inl ⟨by rfl, ?_⟩) (by assumption) ?_
        rotate_left
        · intro w hSw; (try dsimp only at hSw); go_simp; try with_reducible rfl
        try simp only [Act.put, pz]
        have : ¬ nv = br := sza
        have : ¬ br = nv := sza
        have : ¬ bd = nv := sza
        have : ¬ nv = bd := sza
        have : ¬ bd = br := sza
        have : ¬ br = bd := sza
        refine wpAnyU_one (i := 8) (by kernel_rfl) rfl rfl (fun K hK => ?_)
        go_simp
        refine (part_c (toks := toks) (en := en) (lim := lim) (dep := dep) (pos := p) 5 (rda) _ HP.out).mono ?_
        rintro e w6 ⟨b6, b6a, b6b, rfl, b6c, hr6, hk6⟩
        have z6 := hk6.size
        try simp at z6
        have lc6_0 := fun o => hk6.cell (nv) o sza sza
        have lf6_0 := fun o => hk6.frozen (nv) o sza sza
        have ll6_0 : nv < w6.heap.size := sza
        try simp at lc6_0
        try simp at lf6_0
        have lb6_0 := hk6.block (nv) sza sza
        have lc6_1 := fun o => hk6.cell (bd) o sza sza
        have lf6_1 := fun o => hk6.frozen (bd) o sza sza
        have ll6_1 : bd < w6.heap.size := sza
        try simp at lc6_1
        try simp at lf6_1
        have lb6_1 := hk6.block (bd) sza sza
        try dsimp only
        refine hK.out _ _ ?_ ?_
        · intro _; (first | (simp; done) | (simp [World.cell?_setCell_other, World.cell?_alloc_lt, *]; done))
        clear hK K
        try simp only [Act.put, pz]
        refine wpAnyU_one (i := 9) (by kernel_rfl) rfl rfl (fun K hK => ?_)
        go_simp
        refine hK.out _ _ ?_ ?_
        · intro _; (first | (simp; done) | (simp [World.cell?_setCell_other, World.cell?_alloc_lt, *]; done))
        clear hK K
        try simp only [Act.put, pz]
        have NN : NodeB (w6.alloc (.cells #[ptrV b6] 30)) w.heap.size [w.heap.size, nv] bd 2 (B (tokAt toks en pos).text) ⟨#[]⟩ 0 (tokAt toks en pos).at_ sv bs acc := nba
        have nr := NN.row
        refine wpAnyU_one (i := 10) (by kernel_rfl) rfl rfl (fun K hK => ?_)
        refine app_node 20 23 rfl w.heap.size sv bs b6 rfl nr.1 ⟨w6.heap.size, 0, none⟩ rfl (by simp) (by rw [Kids.len _ _ nr.2.2]; have := rR.posle; have := rR.small; omega) (by simp; omega) ?_
        intro g cap w7 how hgr hat hlt
        obtain ⟨d3, d4⟩ := NN.grown5 hgr
        have M6 : Loc (w6.alloc (.cells #[ptrV b6] 30)) nv (ptrV bd) 30 := loca
        have M7 := M6.grown hgr (NN.exne (by simp))
        have m7 := M7.cell
        have S7 : (w6.alloc (.cells #[ptrV b6] 30)).heap.size ≤ w7.heap.size := hgr.size
        refine hK.out _ _ ?_ ?_
        · intro _; exact ⟨m7, d3⟩
        clear hK K
        simp only [Act.put, List.setIfInBounds_toArray, List.set_cons_zero, List.set_cons_succ]
        refine wpAnyU_one (i := 11) (by kernel_rfl) rfl rfl (fun K hK => ?_)
        go_simp
        refine hK.out _ _ ?_ ?_
        · intro hF; exact absurd hF (by decide)
        clear hK K
        try simp only [Act.put, pz]
        refine wpAnyU_one (i := 12) (by kernel_rfl) rfl rfl (fun K hK => ?_)
        go_simp
        refine hK.out _ _ ?_ ?_
        · intro hF; exact absurd hF (by decide)
        clear hK K
        try simp only [Act.put, pz]
        refine wpAnyU_one (i := 13) (by kernel_rfl) rfl rfl (fun K hK => ?_)
        go_simp
        refine hK.out _ _ ?_ ?_
        · intro hF; exact absurd hF (by decide)
        clear hK K
        try simp only [Act.put, pz]
        refine wpAnyU_done (by kernel_rfl) ?_ _
        have hr7 : Rdr toks en br lim p' dep w7 := (hr6.alloc _).grown hgr (fun k e => Nat.le_trans hlim (NN.own_ge e))
        have K7 : Kp w.heap.size [br] w w7 := Kp.grown (kpa) (by simp; omega) hgr (fun k e => .inl (NN.own_ge e))
        have Z6 : Loc (w6.alloc (.cells #[ptrV b6] 30)) w.heap.size (.pointer none) 30 := loca
        have Z7 := Z6.grown hgr (NN.exne (by simp))
        have ml7 := M7.lt
        have zl7 := Z7.lt
        have hT : IsT (w6.alloc (.cells #[ptrV b6] 30)) w5.heap.size w6.heap.size b6 (leafT 5 x) := by
          have hl := NodeB.leaf (lo := w5.heap.size) (ex := []) (by simpa using b6a) b6b (by simp) b6c
          exact (hl.isT rfl rfl).frame (Nat.le_refl _) (Nat.le_refl _) (fun k _ hk => hA_old hk)
        have NP := NN.push (t := leafT 5 x) (l := w5.heap.size) (u := w6.heap.size) (b := b6) hT (by omega) (by simp) (by
          intro y hy
          simp at hy
          rcases hy with rfl | hy | rfl | rfl
          · omega
          · have := (MN.row.2.1 y hy).1; omega
          · omega
          · omega) (by simp; omega) how hgr hat hlt
        by_cases c2 : isTok (tokAt toks en p') kSemi = true
        · rw [if_pos c2] at hA
          go_wp2_with fail
          refine (expect_yes (toks := toks) (en := en) (lim := lim) (dep := dep) (pos := p') (rda) ⟨#[59]⟩ (by rw [mk_toList]; exact c2)).mono ?_
          rintro e w8 ⟨rfl, hr8, hk8⟩
          have z8 := hk8.size
          try simp at z8
          have Z8 : Loc w8 w.heap.size (.pointer none) 30 := loca
          have M8 : Loc w8 nv (ptrV bd) 30 := loca
          have N8 := NP.kp hk8 (by simp) (by simp; omega)
          have K8 : Kp w.heap.size [br] w w8 := kpa
          go_wp2
          go_roundg gk
          case measure => omega
          case rel => exact ⟨_, _, _, _, ⟨hA, by have := pPart_lt HP.out; simp; omega⟩, hr8, Z8, M8, N8, K8⟩
        · rw [if_neg c2] at hA
          rw [Bool.not_eq_true] at c2
          cases hA
          cases hr
          go_wp2_with fail
          refine (expect_no (toks := toks) (en := en) (lim := lim) (dep := dep) (pos := p') (rda) ⟨#[59]⟩ (by rw [mk_toList]; exact c2)).mono ?_
          rintro e w8 ⟨rfl, hk8⟩
          have z8 := hk8.size
          try simp at z8
          go_wp2
          exact ⟨rfl, rfl, kpa⟩
end Go.Proofs.YtbplaekabeggkaaGreatDoor

namespace Go.Proofs.YtbplaekabeggkaaGreatDoor
open Go.RowKit

theorem Rdr.setDepS {toks : List Tok} {en : Int} {br lim pos dep : Nat} {w : World} (h : Rdr toks en br lim pos dep w) (hd : dep + 1 ≤ 41) : Rdr toks en br lim pos (dep + 1) (w.setCell ⟨br, 3, none⟩ (.int .i64 ((dep : Int) + 1))) :=
  h.setDep (dep + 1) hd
theorem Rdr.setDepP {toks : List Tok} {en : Int} {br lim pos dep dep' : Nat} {w : World} (h : Rdr toks en br lim pos dep' w) (hd : dep ≤ 41) : Rdr toks en br lim pos dep (w.setCell ⟨br, 3, none⟩ (.int .i64 (dep : Int))) :=
  h.setDep dep hd

set_option maxRecDepth 100000 in
set_option maxHeartbeats 400000 in
theorem deeper_stop {toks : List Tok} {en : Int} {br lim pos dep : Nat} {w : World} (hR : Rdr toks en br lim pos dep w) (fv : Fn) (cap : Array Value) (hd : 40 < dep + 1) (hd2 : dep ≤ 40) :
    Calls Tryz.prog 158 #[.pointer (some ⟨br, 0, none⟩), .func fv #[] cap] w fun e w' => e = .panicked (stopV (tokAt toks en pos).at_ 3) ∧ Kp w.heap.size [br] w w' := by
  have hlim := hR.limle
  have hbr := hR.lt
  have hbl : br < w.heap.size := by omega
  obtain ⟨cp, sp, c0, c1, c2, c3, f1, f3⟩ := hR.cells
  have hgt : (40 : Int) < (dep : Int) + 1 := by omega
  have hrA := (hR.setDepS (by omega)).alloc (.cells #[.pointer none] 30)
  go_enter Tryz.func158, Tryz.ntmps158
  go_wp2_with fail
  refine (now_c hrA).mono ?_
  rintro e w1 ⟨rfl, hk1⟩
  have z1 := hk1.size
  try simp at z1
  go_wp2
  exact ⟨rfl, rfl, kpa⟩

set_option maxRecDepth 100000 in
set_option maxHeartbeats 400000 in
theorem deeper_ok {toks : List Tok} {en : Int} {br lim pos dep : Nat} {w : World} (hR : Rdr toks en br lim pos dep w) (f : FuncId) (cap : Array Value) (hcf : ∀ w : World, (callFunc f cap).run Tryz.prog w = .ok (.enter f cap) w) (hd : dep + 1 ≤ 40) (t : T) (p : Nat)
    (hf : ∀ w1, Rdr toks en br lim pos (dep + 1) w1 → Kp w.heap.size [br] w w1 → Calls Tryz.prog f cap w1 (PostN toks en br lim (dep + 1) w1 (.ok t p))) :
    Calls Tryz.prog 158 #[.pointer (some ⟨br, 0, none⟩), .func (.func f) #[] cap] w (PostN toks en br lim dep w (.ok t p)) := by
  have hlim := hR.limle
  have hbr := hR.lt
  have hbl : br < w.heap.size := by omega
  obtain ⟨cp, sp, c0, c1, c2, c3, f1, f3⟩ := hR.cells
  have hgt : (dep : Int) + 1 ≤ 40 := by omega
  have hrA := (hR.setDepS (by omega)).alloc (.cells #[.pointer none] 30)
  have K0 : Kp w.heap.size [br] w ((w.setCell ⟨br, 3, none⟩ (.int .i64 ((dep : Int) + 1))).alloc (.cells #[.pointer none] 30)) := kpa
  have hc := hf _ hrA K0
  clear hf
  have : ¬ w.heap.size = br := sza
  have : ¬ br = w.heap.size := sza
  go_enter Tryz.func158, Tryz.ntmps158
  go_wp2_with fail
  refine hc.mono ?_
  rintro e w1 ⟨b1, rfl, hT1, hr1, hk1⟩
  have z1 := hk1.size
  try simp at z1
  have lc1_0 := fun o => hk1.cell (w.heap.size) o sza sza
  have lf1_0 := fun o => hk1.frozen (w.heap.size) o sza sza
  have ll1_0 : w.heap.size < w1.heap.size := sza
  try simp at lc1_0
  try simp at lf1_0
  have lb1_0 := hk1.block (w.heap.size) sza sza
  obtain ⟨cp', sp', d0, d1, d2, d3, g1, g3⟩ := hr1.cells
  have hbl1 : br < w1.heap.size := by omega
  go_wp2
  refine bodyPost_ret (v := .agg #[ptrV b1]) (by simp [results, Tryz.results158, go_sem, *]) rfl ?_
  refine ⟨b1, rfl, ?_, ?_, ?_⟩
  · refine IsT.frame (by simp) (by simp) (fun k hk hk' => ?_) _ _ hT1
    simp at hk
    (repeat' (first | rfl | (rw [hS_ne (by first | omega | (simp; omega))]) | (rw [hA_old (by first | omega | (simp; omega))]) | (rw [hD]) | (rw [hDN])))
  · exact ((hr1.setDepP (by omega)).setCell (by simpa using hlim) _).alloc _
  · exact kpa

set_option maxRecDepth 100000 in
set_option maxHeartbeats 400000 in
theorem deeper_die {toks : List Tok} {en : Int} {br lim pos dep : Nat} {w : World} (hR : Rdr toks en br lim pos dep w) (f : FuncId) (cap : Array Value) (hcf : ∀ w : World, (callFunc f cap).run Tryz.prog w = .ok (.enter f cap) w) (hd : dep + 1 ≤ 40) (a er : Int)
    (hf : ∀ w1, Rdr toks en br lim pos (dep + 1) w1 → Kp w.heap.size [br] w w1 → Calls Tryz.prog f cap w1 (PostN toks en br lim (dep + 1) w1 (.stop a er))) :
    Calls Tryz.prog 158 #[.pointer (some ⟨br, 0, none⟩), .func (.func f) #[] cap] w (PostN toks en br lim dep w (.stop a er)) := by
  have hlim := hR.limle
  have hbr := hR.lt
  have hbl : br < w.heap.size := by omega
  obtain ⟨cp, sp, c0, c1, c2, c3, f1, f3⟩ := hR.cells
  have hgt : (dep : Int) + 1 ≤ 40 := by omega
  have hrA := (hR.setDepS (by omega)).alloc (.cells #[.pointer none] 30)
  have K0 : Kp w.heap.size [br] w ((w.setCell ⟨br, 3, none⟩ (.int .i64 ((dep : Int) + 1))).alloc (.cells #[.pointer none] 30)) := kpa
  have hc := hf _ hrA K0
  clear hf
  go_enter Tryz.func158, Tryz.ntmps158
  go_wp2_with fail
  refine (hc).mono ?_
  rintro e w1 ⟨rfl, hk1⟩
  have z1 := hk1.size
  try simp at z1
  go_wp2
  exact ⟨rfl, rfl, kpa⟩

/-- a closure that goes one deeper -/
theorem deeper_c {toks : List Tok} {en : Int} {br lim pos dep : Nat} {w : World} (hR : Rdr toks en br lim pos dep w) (f : FuncId) (cap : Array Value) (hcf : ∀ w : World, (callFunc f cap).run Tryz.prog w = .ok (.enter f cap) w) (hd : dep ≤ 40) (r : Res T)
    (hr : 40 < dep + 1 → r = .stop (tokAt toks en pos).at_ 3)
    (hf : dep + 1 ≤ 40 → ∀ w1, Rdr toks en br lim pos (dep + 1) w1 → Kp w.heap.size [br] w w1 → Calls Tryz.prog f cap w1 (PostN toks en br lim (dep + 1) w1 r)) :
    Calls Tryz.prog 158 #[.pointer (some ⟨br, 0, none⟩), .func (.func f) #[] cap] w (PostN toks en br lim dep w r) := by
  by_cases h : 40 < dep + 1
  · rw [hr h]
    exact deeper_stop hR _ _ h hd
  · cases r with
    | ok t p => exact deeper_ok hR f cap hcf (by omega) t p (hf (by omega))
    | stop a er => exact deeper_die hR f cap hcf (by omega) a er (hf (by omega))

end Go.Proofs.YtbplaekabeggkaaGreatDoor

namespace Go.Proofs.YtbplaekabeggkaaGreatDoor
open Go.RowKit

def CExpr (k : Nat) : Prop := ∀ (toks : List Tok) (en : Int) (br lim pos dep least : Nat) (w : World) (r : Res T), Rdr toks en br lim pos dep w → dep ≤ 40 → least ≤ 6 → pExpr k toks en dep least pos = some r →
  Calls Tryz.prog 181 #[.pointer (some ⟨br, 0, none⟩), .int .i64 least] w (PostN toks en br lim dep w r)
def CUnary (k : Nat) : Prop := ∀ (toks : List Tok) (en : Int) (br lim pos dep : Nat) (w : World) (r : Res T), Rdr toks en br lim pos dep w → dep ≤ 40 → pUnary k toks en dep pos = some r →
  Calls Tryz.prog 201 #[.pointer (some ⟨br, 0, none⟩)] w (PostN toks en br lim dep w r)
def CPostfix (k : Nat) : Prop := ∀ (toks : List Tok) (en : Int) (br lim pos dep : Nat) (w : World) (r : Res T), Rdr toks en br lim pos dep w → dep ≤ 40 → pPostfix k toks en dep pos = some r →
  Calls Tryz.prog 222 #[.pointer (some ⟨br, 0, none⟩)] w (PostN toks en br lim dep w r)
def CPrimary (k : Nat) : Prop := ∀ (toks : List Tok) (en : Int) (br lim pos dep : Nat) (w : World) (r : Res T), Rdr toks en br lim pos dep w → dep ≤ 40 → pPrimary k toks en dep pos = some r →
  Calls Tryz.prog 233 #[.pointer (some ⟨br, 0, none⟩)] w (PostN toks en br lim dep w r)
def CNamed (k : Nat) : Prop := ∀ (toks : List Tok) (en : Int) (br lim pos dep : Nat) (w : World) (r : Res T), Rdr toks en br lim pos dep w → dep ≤ 40 → (tokAt toks en pos).kind = 1 → pNamed k toks en dep pos = some r →
  Calls Tryz.prog 236 #[.pointer (some ⟨br, 0, none⟩)] w (PostN toks en br lim dep w r)
def CBrackets (k : Nat) : Prop := ∀ (toks : List Tok) (en : Int) (br lim pos dep : Nat) (w : World) (r : Res T), Rdr toks en br lim pos dep w → dep ≤ 40 → pBrackets k toks en dep pos = some r →
  Calls Tryz.prog 203 #[.pointer (some ⟨br, 0, none⟩)] w (PostN toks en br lim dep w r)

set_option maxRecDepth 100000 in
set_option maxHeartbeats 400000 in
theorem brackets1_c {toks : List Tok} {en : Int} {br lim pos dep cb k : Nat} {w : World} (hE : CExpr k) (hR : Rdr toks en br lim pos dep w) (hd : dep ≤ 40) (hp : pos < toks.length) (MC : Loc w cb (ptrV br) 73) (hcb : lim ≤ cb) (r : Res T)
    (hr : (match pExpr k toks en dep 1 (pos + 1) with
      | some (.ok t p) => if isTok (tokAt toks en p) kRpar then some (.ok t (p + 1)) else some (.stop (tokAt toks en p).at_ 1)
      | o => o) = some r) :
    Calls Tryz.prog 225 #[.pointer (some ⟨cb, 0, none⟩)] w (PostN toks en br lim dep w r) := by
  have hlim := hR.limle
  have hbr := hR.lt
  have mlc := MC.lt
  have mc := MC.cell
  have hbc : br ≠ cb := by omega
  cases hX : pExpr k toks en dep 1 (pos + 1) with
  | none => rw [hX] at hr; cases hr
  | some x =>
  rw [hX] at hr
  have HE := fun w1 (h1 : Rdr toks en br lim (pos + 1) dep w1) => hE toks en br lim (pos + 1) dep 1 w1 x h1 hd (by omega) hX
  clear hX hE
  cases x with
  | stop a er =>
    cases hr
    have : ¬ cb = br := sza
    have : ¬ br = cb := sza
    go_enter Tryz.func225, Tryz.ntmps225
    go_wp2_with fail
    refine (take_c (pos := pos) (dep := dep) (toks := toks) (en := en) (lim := lim) (rda) hp).mono ?_
    rintro e w1 ⟨rfl, hr1, hk1⟩
    have z1 := hk1.size
    try simp at z1
    have lc1_0 := fun o => hk1.cell (cb) o sza sza
    have lf1_0 := fun o => hk1.frozen (cb) o sza sza
    have ll1_0 : cb < w1.heap.size := sza
    try simp at lc1_0
    try simp at lf1_0
    have lb1_0 := hk1.block (cb) sza sza
    go_wp2_with fail
    refine (HE _ hr1).mono ?_
    rintro e w2 ⟨rfl, hk2⟩
    have z2 := hk2.size
    try simp at z2
    go_wp2
    exact ⟨rfl, rfl, kpa⟩
  | ok t p =>
    dsimp only at hr
    have : ¬ cb = br := sza
    have : ¬ br = cb := sza
    have : ¬ w.heap.size = cb := sza
    have : ¬ cb = w.heap.size := sza
    have : ¬ w.heap.size = br := sza
    have : ¬ br = w.heap.size := sza
    go_enter Tryz.func225, Tryz.ntmps225
    go_wp2_with fail
    refine (take_c (pos := pos) (dep := dep) (toks := toks) (en := en) (lim := lim) (rda) hp).mono ?_
    rintro e w1 ⟨rfl, hr1, hk1⟩
    have z1 := hk1.size
    try simp at z1
    have lc1_0 := fun o => hk1.cell (cb) o sza sza
    have lf1_0 := fun o => hk1.frozen (cb) o sza sza
    have ll1_0 : cb < w1.heap.size := sza
    try simp at lc1_0
    try simp at lf1_0
    have lb1_0 := hk1.block (cb) sza sza
    have lc1_1 := fun o => hk1.cell (w.heap.size) o sza sza
    have lf1_1 := fun o => hk1.frozen (w.heap.size) o sza sza
    have ll1_1 : w.heap.size < w1.heap.size := sza
    try simp at lc1_1
    try simp at lf1_1
    have lb1_1 := hk1.block (w.heap.size) sza sza
    go_wp2_with fail
    refine (HE _ hr1).mono ?_
    rintro e w2 ⟨b2, rfl, hT2, hr2, hk2⟩
    have z2 := hk2.size
    try simp at z2
    have lc2_0 := fun o => hk2.cell (cb) o sza sza
    have lf2_0 := fun o => hk2.frozen (cb) o sza sza
    have ll2_0 : cb < w2.heap.size := sza
    try simp at lc2_0
    try simp at lf2_0
    have lb2_0 := hk2.block (cb) sza sza
    have lc2_1 := fun o => hk2.cell (w.heap.size) o sza sza
    have lf2_1 := fun o => hk2.frozen (w.heap.size) o sza sza
    have ll2_1 : w.heap.size < w2.heap.size := sza
    try simp at lc2_1
    try simp at lf2_1
    have lb2_1 := hk2.block (w.heap.size) sza sza
    by_cases c1 : isTok (tokAt toks en p) kRpar = true
    · rw [if_pos c1] at hr
      cases hr
      have : ¬ w2.heap.size = cb := sza
      have : ¬ cb = w2.heap.size := sza
      have : ¬ w2.heap.size = w.heap.size := sza
      have : ¬ w.heap.size = w2.heap.size := sza
      have : ¬ w2.heap.size = br := sza
      have : ¬ br = w2.heap.size := sza
      go_wp2_with fail
      refine (expect_yes (pos := p) (dep := dep) (toks := toks) (en := en) (lim := lim) (rda) ⟨#[41]⟩ (by rw [mk_toList]; exact c1)).mono ?_
      rintro e w3 ⟨rfl, hr3, hk3⟩
      have z3 := hk3.size
      try simp at z3
      have lc3_0 := fun o => hk3.cell (cb) o sza sza
      have lf3_0 := fun o => hk3.frozen (cb) o sza sza
      have ll3_0 : cb < w3.heap.size := sza
      try simp at lc3_0
      try simp at lf3_0
      have lb3_0 := hk3.block (cb) sza sza
      have lc3_1 := fun o => hk3.cell (w.heap.size) o sza sza
      have lf3_1 := fun o => hk3.frozen (w.heap.size) o sza sza
      have ll3_1 : w.heap.size < w3.heap.size := sza
      try simp at lc3_1
      try simp at lf3_1
      have lb3_1 := hk3.block (w.heap.size) sza sza
      have lc3_2 := fun o => hk3.cell (w2.heap.size) o sza sza
      have lf3_2 := fun o => hk3.frozen (w2.heap.size) o sza sza
      have ll3_2 : w2.heap.size < w3.heap.size := sza
      try simp at lc3_2
      try simp at lf3_2
      have lb3_2 := hk3.block (w2.heap.size) sza sza
      go_wp2
      refine bodyPost_ret (v := .agg #[ptrV b2]) (by simp [results, Tryz.results225, go_sem, *]) rfl ?_
      refine ⟨b2, rfl, ?_, rda, kpa⟩
      refine IsT.frame sza sza (fun k hk hk' => ?_) _ _ hT2
      rw [hS_ne (by omega), hk3.block k (by simp; omega) (by simp; omega)]
      (repeat' (first | rfl | (rw [hS_ne (by first | omega | (simp; omega))]) | (rw [hA_old (by first | omega | (simp; omega))]) | (rw [hD]) | (rw [hDN])))
    · rw [if_neg c1] at hr
      rw [Bool.not_eq_true] at c1
      cases hr
      go_wp2_with fail
      refine (expect_no (pos := p) (dep := dep) (toks := toks) (en := en) (lim := lim) (rda) ⟨#[41]⟩ (by rw [mk_toList]; exact c1)).mono ?_
      rintro e w3 ⟨rfl, hk3⟩
      have z3 := hk3.size
      try simp at z3
      go_wp2
      exact ⟨rfl, rfl, kpa⟩

theorem cf225 (cb : Nat) (w : World) : (callFunc 225 #[.pointer (some ⟨cb, 0, none⟩)]).run Tryz.prog w = .ok (.enter 225 #[.pointer (some ⟨cb, 0, none⟩)]) w := by kernel_rfl

set_option maxRecDepth 100000 in
set_option maxHeartbeats 400000 in
theorem brackets_step {k : Nat} (hE : CExpr k) : CBrackets (k + 1) := by
  intro toks en br lim pos dep w r hR hd hr
  have hlim := hR.limle
  have hbr := hR.lt
  rw [pBrackets] at hr
  by_cases c1 : isTok (tokAt toks en pos) kLpar = true
  · rw [if_pos c1] at hr
    have hp := isTok_lt c1
    have L0 := (Loc.new w (ptrV br) 73).alloc (.cells #[.pointer none] 30)
    have hi := is_c ((hR.alloc (.cells #[ptrV br] 73)).alloc (.cells #[.pointer none] 30)) ⟨#[40]⟩
    rw [mk_toList, show isTok (tokAt toks en pos) (#[40] : Array UInt8).toList = true from c1] at hi
    have hD : ∀ (w1 : World), Rdr toks en br lim pos dep w1 → Loc w1 w.heap.size (ptrV br) 73 → Calls Tryz.prog 158 #[.pointer (some ⟨br, 0, none⟩), .func (.func 225) #[] #[.pointer (some ⟨w.heap.size, 0, none⟩)]] w1 (PostN toks en br lim dep w1 r) := by
      intro w1 h1 hl
      have hll := hl.lt
      refine deeper_c h1 225 _ (cf225 _) hd r (fun h => ?_) (fun h w2 h2 k2 => ?_)
      · rw [if_pos h] at hr; cases hr; rfl
      · rw [if_neg (by omega)] at hr
        exact brackets1_c hE h2 h hp (hl.kp k2 (by omega) (by simp; omega)) hlim r hr
    clear hr c1 hE
    have : ¬ w.heap.size = br := sza
    have : ¬ br = w.heap.size := sza
    have : ¬ w.heap.size + 1 = w.heap.size := sza
    have : ¬ w.heap.size = w.heap.size + 1 := sza
    have : ¬ w.heap.size + 1 = br := sza
    have : ¬ br = w.heap.size + 1 := sza
    go_enter Tryz.func203, Tryz.ntmps203
    go_wp2_with fail
    refine (hi).mono ?_
    rintro e w1 ⟨rfl, hk1⟩
    have z1 := hk1.size
    try simp at z1
    have lc1_0 := fun o => hk1.cell (w.heap.size) o sza sza
    have lf1_0 := fun o => hk1.frozen (w.heap.size) o sza sza
    have ll1_0 : w.heap.size < w1.heap.size := sza
    try simp at lc1_0
    try simp at lf1_0
    have lb1_0 := hk1.block (w.heap.size) sza sza
    have lc1_1 := fun o => hk1.cell (w.heap.size + 1) o sza sza
    have lf1_1 := fun o => hk1.frozen (w.heap.size + 1) o sza sza
    have ll1_1 : w.heap.size + 1 < w1.heap.size := sza
    try simp at lc1_1
    try simp at lf1_1
    have lb1_1 := hk1.block (w.heap.size + 1) sza sza
    have hr1 : Rdr toks en br lim pos dep w1 := rda
    go_wp2_with fail
    refine (hD _ hr1 (loca)).mono ?_
    cases r with
    | stop a er =>
      rintro e w2 ⟨rfl, hk2⟩
      go_wp2
      exact ⟨rfl, rfl, kpa⟩
    | ok t p =>
      rintro e w2 ⟨b2, rfl, hT2, hr2, hk2⟩
      have z2 := hk2.size
      try simp at z2
      have lc2_0 := fun o => hk2.cell (w.heap.size) o sza sza
      have lf2_0 := fun o => hk2.frozen (w.heap.size) o sza sza
      have ll2_0 : w.heap.size < w2.heap.size := sza
      try simp at lc2_0
      try simp at lf2_0
      have lb2_0 := hk2.block (w.heap.size) sza sza
      have lc2_1 := fun o => hk2.cell (w.heap.size + 1) o sza sza
      have lf2_1 := fun o => hk2.frozen (w.heap.size + 1) o sza sza
      have ll2_1 : w.heap.size + 1 < w2.heap.size := sza
      try simp at lc2_1
      try simp at lf2_1
      have lb2_1 := hk2.block (w.heap.size + 1) sza sza
      go_wp2
      refine bodyPost_ret (v := .agg #[ptrV b2]) (by simp [results, Tryz.results203, go_sem, *]) rfl ?_
      refine ⟨b2, rfl, ?_, rda, kpa⟩
      refine IsT.frame sza sza (fun k hk hk' => ?_) _ _ hT2
      (repeat' (first | rfl | (rw [hS_ne (by first | omega | (simp; omega))]) | (rw [hA_old (by first | omega | (simp; omega))]) | (rw [hD]) | (rw [hDN])))
  · rw [if_neg c1] at hr
    rw [Bool.not_eq_true] at c1
    cases hr
    have hi := is_c ((hR.alloc (.cells #[ptrV br] 73)).alloc (.cells #[.pointer none] 30)) ⟨#[40]⟩
    rw [mk_toList, show isTok (tokAt toks en pos) (#[40] : Array UInt8).toList = false from c1] at hi
    have : ¬ w.heap.size = br := sza
    have : ¬ br = w.heap.size := sza
    go_enter Tryz.func203, Tryz.ntmps203
    go_wp2_with fail
    refine (hi).mono ?_
    rintro e w1 ⟨rfl, hk1⟩
    have z1 := hk1.size
    try simp at z1
    have lc1_0 := fun o => hk1.cell (w.heap.size) o sza sza
    have lf1_0 := fun o => hk1.frozen (w.heap.size) o sza sza
    have ll1_0 : w.heap.size < w1.heap.size := sza
    try simp at lc1_0
    try simp at lf1_0
    have lb1_0 := hk1.block (w.heap.size) sza sza
    go_wp2_with fail
    refine (fail_c (pos := pos) (dep := dep) (toks := toks) (en := en) (lim := lim) (rda)).mono ?_
    rintro e w2 ⟨rfl, hk2⟩
    have z2 := hk2.size
    try simp at z2
    go_wp2
    exact ⟨rfl, rfl, kpa⟩

end Go.Proofs.YtbplaekabeggkaaGreatDoor

namespace Go.Proofs.YtbplaekabeggkaaGreatDoor
open Go.RowKit

theorem ret_int {k : IntKind} {a b : Int} (h : a = b) : Ending.returned (.int k a) = .returned (.int k b) := by rw [h]

/-- a slice value that reads as these strings -/
def Strs (w : World) (v : Value) (ss : List (List UInt8)) : Prop :=
  ∃ a n cap, v = .slice a n cap ∧ n = ss.length ∧ ∀ (i : Nat) (s : List UInt8), ss[i]? = some s → ∃ g o, a = some ⟨g, o, none⟩ ∧ w.cell? ⟨g, o + i, none⟩ = some (.string (B s))

def idxL (ss : List (List UInt8)) (s : List UInt8) : Int := match ss.findIdx? (· == s) with | some i => i | none => -1

theorem findIdx_step {ss : List (List UInt8)} {s : List UInt8} {k : Nat} (hk : k < ss.length) (hno : ∀ j, j < k → ∀ x, ss[j]? = some x → x ≠ s) :
    (ss[k] = s → idxL ss s = k) := by
  intro h
  unfold idxL
  have : ss.findIdx? (· == s) = some k := by
    rw [List.findIdx?_eq_some_iff_getElem]
    refine ⟨hk, by simp [h], fun j hj => ?_⟩
    have := hno j hj ss[j] (List.getElem?_eq_getElem (by omega))
    simpa using this
  rw [this]

theorem findIdx_none {ss : List (List UInt8)} {s : List UInt8} (hno : ∀ j, j < ss.length → ∀ x, ss[j]? = some x → x ≠ s) : idxL ss s = -1 := by
  unfold idxL
  have : ss.findIdx? (· == s) = none := by
    rw [List.findIdx?_eq_none_iff]
    intro x hx
    obtain ⟨j, hj, rfl⟩ := List.getElem_of_mem hx
    have := hno j hj ss[j] (List.getElem?_eq_getElem hj)
    simpa using this
  rw [this]

set_option maxRecDepth 100000 in
set_option maxHeartbeats 400000 in
theorem index_c (w : World) (a : Option Addr) (n cap : Nat) (ss : List (List UInt8)) (s : ByteArray) (hS : Strs w (.slice a n cap) ss) (hl : ss.length ≤ 100000) :
    Calls Tryz.prog 152 #[.slice a n cap, .string s] w fun e w' => e = .returned (.int .i64 (idxL ss s.toList)) ∧ w = w' := by
  obtain ⟨a', n', cap', hv, hn, hc⟩ := hS
  cases hv
  have HN := Lib.hid hn
  have hnl : n ≤ 100000 := by omega
  clear hn
  go_enter Tryz.func152, Tryz.ntmps152
  go_wp2
  go_loop [8] (fun i => ∃ k : Nat, k ≤ n ∧ i = .int .i64 k ∧ Go.Aside (∀ j, j < k → ∀ x, ss[j]? = some x → x ≠ s.toList)) (fun i => n - (intOf i).toNat)
  case atStart => exact ⟨0, Nat.zero_le _, rfl, fun j hj => absurd hj (by omega)⟩
  case round =>
    obtain ⟨k, hk, rfl, A⟩ := hrel
    by_cases hlt : k < n
    · have hkl : k < ss.length := by have := HN.out; omega
      obtain ⟨g, o, rfl, hcell⟩ := hc k ss[k] (List.getElem?_eq_getElem hkl)
      by_cases he : ss[k] = s.toList
      · have HF := Lib.hid (findIdx_step hkl A.out he)
        have hb : (s.toList == ss[k]) = true := by rw [he]; simp
        clear he hc
        go_wp2
        go_ret
        exact ⟨by rw [HF.out]; rfl, rfl⟩
      · have hb : (s.toList == ss[k]) = false := by simpa using fun e : s.toList = ss[k] => he e.symm
        have A2 : Go.Aside (∀ j, j < k + 1 → ∀ x, ss[j]? = some x → x ≠ s.toList) := by
          intro j hj x hx
          rcases Nat.lt_or_ge j k with h | h
          · exact A.out j h x hx
          · obtain rfl : j = k := by omega
            rw [List.getElem?_eq_getElem hkl] at hx
            cases hx
            exact he
        clear he hc A
        go_wp2
        go_round
        case rel => exact ⟨k + 1, by omega, by go_num, A2⟩
        case measure => simp [intOf]; omega
    · have hkn : k = ss.length := by have := HN.out; omega
      have HF := Lib.hid (findIdx_none (s := s.toList) (ss := ss) (fun j hj => A.out j (by omega)))
      clear hkn hc A
      go_wp2
      go_ret
      exact ⟨by rw [HF.out]; rfl, rfl⟩

theorem Strs.frame {w w' : World} {v : Value} {ss : List (List UInt8)} (h : Strs w v ss) (hb : ∀ g, v.ownBlock = some g → w'.heap[g]? = w.heap[g]?) : Strs w' v ss := by
  obtain ⟨a, n, cap, rfl, hn, hc⟩ := h
  refine ⟨a, n, cap, rfl, hn, fun i s hs => ?_⟩
  obtain ⟨g, o, rfl, hcell⟩ := hc i s hs
  exact ⟨g, o, rfl, by rw [World.cell?_of_block (a := ⟨g, o + i, none⟩) (hb g rfl)]; exact hcell⟩

@[reducible] def strsV (ss : List (List UInt8)) : Array Value := (ss.map fun s => Value.string (B s)).toArray

theorem Strs.new (w : World) (ss : List (List UInt8)) (c : Nat) (t : TypeId) : Strs (w.alloc (.cells (strsV ss) t)) (.slice (some ⟨w.heap.size, 0, none⟩) ss.length c) ss := by
  refine ⟨_, _, _, rfl, rfl, fun i s hs => ⟨w.heap.size, 0, rfl, ?_⟩⟩
  rw [cell_of_cells (hA_new)]
  simp [strsV, hs]

set_option maxRecDepth 100000 in
set_option maxHeartbeats 400000 in
theorem signs_c (w : World) : Calls Tryz.prog 149 #[] w fun e w' => e = .returned (.slice (some ⟨w.heap.size, 0, none⟩) 19 19) ∧ w' = w.alloc (.cells (strsV signsL) 9) := by
  go_enter Tryz.func149, Tryz.ntmps149
  go_wp2
  go_ret
  exact ⟨rfl, rfl⟩

set_option maxRecDepth 100000 in
set_option maxHeartbeats 400000 in
theorem signed2_c (w : World) (s : ByteArray) :
    Calls Tryz.prog 224 #[.string s, .int .i64 2] w fun e w' => (∃ b : Bool, e = .returned (.tuple #[.int .i64 (signed2 s.toList), .bool b])) ∧ Kp w.heap.size [] w w' := by
  have hS := Strs.new w signsL 19 9
  have hS2 : Strs (w.alloc (.cells (strsV signsL) 9)) (.slice (some ⟨w.heap.size, 0, none⟩) 17 19) (signsL.take 17) := by
    obtain ⟨a, n, cap, hv, hn, hc⟩ := hS
    cases hv
    refine ⟨_, _, _, rfl, rfl, fun i x hx => hc i x ?_⟩
    rw [List.getElem?_take] at hx
    split at hx
    · exact hx
    · cases hx
  have hi := index_c _ _ _ _ _ s hS2 (by decide)
  clear hS hS2
  by_cases h0 : s.toList = []
  · have e0 : signed2 s.toList = 0 := by rw [h0]; rfl
    have hb : (s.toList == []) = true := by rw [h0]; rfl
    rw [e0]
    clear h0 e0 hi
    go_enter Tryz.func224, Tryz.ntmps224
    go_wp2_with fail
    refine (signs_c _).mono ?_
    rintro e w1 ⟨rfl, rfl⟩
    go_wp2
    go_ret2
    exact ⟨⟨_, rfl⟩, kpa⟩
  · have e0 : (if idxL (signsL.take 17) s.toList < 0 then (0 : Int) else idxL (signsL.take 17) s.toList) = (signed2 s.toList : Int) := by
      unfold signed2 idxL
      cases h : (signsL.take 17).findIdx? (· == s.toList) with
      | none => rfl
      | some i => simp only [Option.getD_some]; rw [if_neg (by omega)]
    have hb : (s.toList == []) = false := by simpa using h0
    have hb2 : s.toList.isEmpty = false := by simpa using h0
    rw [← e0]
    generalize idxL (signsL.take 17) s.toList = q at hi ⊢
    clear h0 e0
    by_cases hq : q < 0
    · rw [if_pos hq]
      go_enter Tryz.func224, Tryz.ntmps224
      go_wp2_with fail
      refine (signs_c _).mono ?_
      rintro e w1 ⟨rfl, rfl⟩
      go_wp2_with fail
      refine hi.mono ?_
      rintro e w2 ⟨rfl, rfl⟩
      go_wp2
      go_ret2
      exact ⟨⟨_, rfl⟩, kpa⟩
    · rw [if_neg hq]
      go_enter Tryz.func224, Tryz.ntmps224
      go_wp2_with fail
      refine (signs_c _).mono ?_
      rintro e w1 ⟨rfl, rfl⟩
      go_wp2_with fail
      refine hi.mono ?_
      rintro e w2 ⟨rfl, rfl⟩
      go_wp2
      go_ret2
      exact ⟨⟨_, rfl⟩, kpa⟩
set_option maxRecDepth 100000 in
set_option maxHeartbeats 400000 in
theorem signed1_c (w : World) (s : ByteArray) (hs : s.toList = [45] ∨ s.toList = [33]) :
    Calls Tryz.prog 224 #[.string s, .int .i64 1] w fun e w' => (∃ b : Bool, e = .returned (.tuple #[.int .i64 (signed1 s.toList), .bool b])) ∧ Kp w.heap.size [] w w' := by
  have hS := Strs.new w signsL 19 9
  have hS2 : Strs (w.alloc (.cells (strsV signsL) 9)) (.slice (some ⟨w.heap.size, 17, none⟩) 2 2) (signsL.drop 17) := by
    obtain ⟨a, n, cap, hv, hn, hc⟩ := hS
    cases hv
    refine ⟨_, _, _, rfl, rfl, fun i x hx => ?_⟩
    rw [List.getElem?_drop] at hx
    obtain ⟨g, o, hg, hcell⟩ := hc (17 + i) x hx
    cases hg
    exact ⟨_, _, rfl, by rw [← hcell, Nat.zero_add]⟩
  have hi := index_c _ _ _ _ _ s hS2 (by decide)
  clear hS hS2
  have e0 : idxL (signsL.drop 17) s.toList + 17 = (signed1 s.toList : Int) ∧ 0 ≤ idxL (signsL.drop 17) s.toList ∧ idxL (signsL.drop 17) s.toList ≤ 1 := by
    rcases hs with h | h <;> rw [h] <;> decide
  have hb : (s.toList == []) = false := by rcases hs with h | h <;> rw [h] <;> rfl
  have hb2 : s.toList.isEmpty = false := by rcases hs with h | h <;> rw [h] <;> rfl
  obtain ⟨e1, e2, e3⟩ := e0
  rw [← e1]
  clear hs e1
  generalize idxL (signsL.drop 17) s.toList = q at hi e2 e3 ⊢
  go_enter Tryz.func224, Tryz.ntmps224
  go_wp2_with fail
  refine (signs_c _).mono ?_
  rintro e w1 ⟨rfl, rfl⟩
  go_wp2_with fail
  refine hi.mono ?_
  rintro e w2 ⟨rfl, rfl⟩
  go_wp2
  go_ret2
  exact ⟨⟨_, rfl⟩, kpa⟩

set_option maxRecDepth 100000 in
set_option maxHeartbeats 1000000 in
theorem level_c (w : World) (n : Nat) : Calls Tryz.prog 211 #[.int .i64 n] w fun e w' => e = .returned (.int .i64 (levelOp n)) ∧ w = w' := by
  go_enter Tryz.func211, Tryz.ntmps211
  go_wp2
  all_goals
    go_ret
    refine ⟨ret_int ?_, rfl⟩
    simp only [beq_iff_eq, beq_eq_false_iff_ne] at *
    unfold levelOp
    (repeat' split) <;> first | rfl | omega

set_option maxHeartbeats 400000 in
theorem levelTok_c {toks : List Tok} {en : Int} {br lim pos dep : Nat} {w : World} (hR : Rdr toks en br lim pos dep w) :
    Calls Tryz.prog 202 #[.pointer (some ⟨br, 0, none⟩)] w fun e w' => e = .returned (.tuple #[.int .i64 (levelTok (tokAt toks en pos)).1, .int .i64 (levelTok (tokAt toks en pos)).2]) ∧ Kp w.heap.size [] w w' := by
  have hc := now_c hR
  have ht := hR.text pos
  generalize tokAt toks en pos = t at hc ht ⊢
  unfold levelTok
  by_cases g1 : t.kind = 4
  rotate_left
  · rw [if_pos g1]
    have hb : (t.kind != 4) = true := by simpa using g1
    clear g1
    go_enter Tryz.func202, Tryz.ntmps202
    go_wp2_with fail
    refine (hc).mono ?_
    rintro e w1 ⟨rfl, hk1⟩
    have z1 := hk1.size
    try simp at z1
    go_wp2
    go_ret2
    exact ⟨rfl, kpa⟩
  rw [if_neg (by simpa using g1)]
  have hb : (t.kind != 4) = false := by simpa using g1
  clear g1
  by_cases g2 : t.text = kOrs
  · rw [if_pos g2]
    have hb2 : (t.text == [124, 124]) = true := by rw [g2]; rfl
    clear g2
    go_enter Tryz.func202, Tryz.ntmps202
    go_wp2_with fail
    refine (hc).mono ?_
    rintro e w1 ⟨rfl, hk1⟩
    have z1 := hk1.size
    try simp at z1
    go_wp2
    go_ret2
    exact ⟨rfl, kpa⟩
  rw [if_neg g2]
  have hb2 : (t.text == [124, 124]) = false := by simpa [kOrs] using g2
  clear g2
  by_cases g3 : t.text = kAnds
  · rw [if_pos g3]
    have hb3 : (t.text == [38, 38]) = true := by rw [g3]; rfl
    clear g3
    go_enter Tryz.func202, Tryz.ntmps202
    go_wp2_with fail
    refine (hc).mono ?_
    rintro e w1 ⟨rfl, hk1⟩
    have z1 := hk1.size
    try simp at z1
    go_wp2
    go_ret2
    exact ⟨rfl, kpa⟩
  rw [if_neg g3]
  have hb3 : (t.text == [38, 38]) = false := by simpa [kAnds] using g3
  clear g3
  have hs := fun w1 => signed2_c w1 (B t.text)
  rw [B_toList] at hs
  generalize signed2 t.text = n at hs ⊢
  go_enter Tryz.func202, Tryz.ntmps202
  go_wp2_with fail
  refine (hc).mono ?_
  rintro e w1 ⟨rfl, hk1⟩
  have z1 := hk1.size
  try simp at z1
  go_wp2_with fail
  refine (hs _).mono ?_
  rintro e w2 ⟨⟨bb, rfl⟩, hk2⟩
  have z2 := hk2.size
  try simp at z2
  go_wp2_with fail
  refine (level_c _ n).mono ?_
  rintro e w3 ⟨rfl, rfl⟩
  go_wp2
  go_ret2
  exact ⟨rfl, kpa⟩

end Go.Proofs.YtbplaekabeggkaaGreatDoor
