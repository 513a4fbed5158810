/- Texts put together: Xp13, Xp13b, Xp13c, Xp13d, Xp13e. -/
import Derived.Test.YthofalkkdpjdlaaDoorXpC
import Derived.Test.YthofalkkdpjdlaaDoorXY
import Derived.Test.YthofalkkdpjdlaaDoorXpB
namespace Go.Px
set_option linter.unusedVariables false
set_option linter.unusedSimpArgs false
set_option linter.unusedSectionVars false
structure F3 where
  i : Int
  g : Int
  a : Int
  deriving DecidableEq, Inhabited
def fF (x : F3) : List Value := [.int .i64 x.i, .int .i64 x.g, .int .i64 x.a]
theorem fF_one (x : F3) : ∀ u ∈ fF x, u.oneCell' = true := by
  intro u hu
  simp only [fF, List.mem_cons, List.not_mem_nil, or_false] at hu
  rcases hu with rfl | rfl | rfl <;> rfl
theorem putAt_flat {α : Type} {f : α → List Value} {sz : Nat} (hf : ∀ x, (f x).length = sz) (l r : List α) (i : Nat) : putAt (flat f l) (i * sz) (flat f r) = flat f (l.take i ++ r ++ l.drop (i + r.length)) := flat_over hf l r i
/-- One is put in, in a new row. -/
theorem ins_new1 {x z : F3} {l : List F3} {i q : Nat} (hi : i ≤ l.length) (hq : 0 < q) : putAt (flat fF (l.take i ++ List.replicate q z)) (i * 3) ((flat fF [x]).take (Nat.min 1 (i + q - i) * 3)) = flat fF (l.take i ++ x :: List.replicate (q - 1) z) := by
  have h1 : Nat.min 1 (i + q - i) = 1 := Nat.min_eq_left (by omega)
  have h2 : (flat fF [x]).take (1 * 3) = flat fF [x] := by simp [flat, fF]
  have hl : (l.take i).length = i := by rw [List.length_take]; omega
  rw [h1, h2, putAt_flat (f := fF) (sz := 3) (fun _ => rfl)]
  congr 1
  rw [List.append_assoc, show i + [x].length = (l.take i).length + 1 by simp [hl], List.drop_append, List.take_append_of_le_length (by omega), List.take_of_length_le (by omega)]
  have h3 : (l.take i).drop ((l.take i).length + 1) = [] := List.drop_of_length_le (by omega)
  rw [h3, Nat.add_sub_cancel_left, List.drop_replicate]
  rfl
theorem ins_new2 {x z : F3} {l : List F3} {i q : Nat} (hi : i < l.length) (hq : q = l.length + 1 - i) : putAt (flat fF (l.take i ++ x :: List.replicate (q - 1) z)) ((i + 1) * 3) ((flat fF (l.drop i)).take (Nat.min (l.drop i).length (i + q - (i + 1)) * 3)) = flat fF (l.take i ++ x :: l.drop i) := by
  have h1 : Nat.min (l.drop i).length (i + q - (i + 1)) = l.length - i := by rw [min_def', List.length_drop]; split <;> omega
  have hl : (l.take i).length = i := by rw [List.length_take]; omega
  have hd : (l.drop i).length = l.length - i := List.length_drop ..
  have h5 : (l.drop i).take (l.length - i) = l.drop i := List.take_of_length_le (by omega)
  rw [h1, flat_take (f := fF) (sz := 3) (fun _ => rfl), h5, putAt_flat (f := fF) (sz := 3) (fun _ => rfl)]
  congr 1
  have e1 : (l.take i ++ x :: List.replicate (q - 1) z).take (i + 1) = l.take i ++ [x] := by
    rw [show i + 1 = (l.take i).length + 1 by omega, List.take_length_add_append]
    rfl
  have e2 : (l.take i ++ x :: List.replicate (q - 1) z).drop (i + 1 + (l.drop i).length) = [] := List.drop_of_length_le (by simp; omega)
  rw [e1, e2]
  simp
theorem take_one3 {x : F3} {n : Nat} (h : 0 < n) : (flat fF [x]).take (Nat.min 1 n * 3) = fF x := by
  rw [show Nat.min 1 n = 1 by rw [min_def']; split <;> omega]
  simp [flat, fF]
/-- One is put in, where there is room. -/
theorem ins_room {x : F3} {l : List F3} {ys : List Value} {i : Nat} (hi : i < l.length) (hy : ys.length = 1 * 3) :
    putAt (putAt (flat fF l ++ ys) ((i + 1) * 3) (((flat fF l ++ ys).drop (i * 3)).take (Nat.min (l.length + 1 - i) (l.length + 1 - (i + 1)) * 3))) (i * 3) ((flat fF [x]).take (Nat.min 1 (l.length + 1 - i) * 3)) = flat fF (l.take i ++ x :: l.drop i) := by
  have hA : (flat fF (l.take i)).length = i * 3 := by rw [flat_len (sz := 3) (fun _ => rfl), List.length_take, Nat.min_eq_left (by omega)]
  have hD : (flat fF (l.drop i)).length = (l.length - i) * 3 := by rw [flat_len (sz := 3) (fun _ => rfl), List.length_drop]
  have hs : flat fF l = flat fF (l.take i) ++ flat fF (l.drop i) := by rw [← flat_app, List.take_append_drop]
  have hm : Nat.min (l.length + 1 - i) (l.length + 1 - (i + 1)) = l.length - i := by rw [min_def']; split <;> omega
  rw [take_one3 (by omega), hm, hs, flat_app, flat_cons]
  generalize flat fF (l.take i) = A at *
  generalize flat fF (l.drop i) = D at *
  have e1 : ((A ++ D ++ ys).drop (i * 3)).take ((l.length - i) * 3) = D := by
    rw [List.append_assoc, ← hA, List.drop_left, ← hD, List.take_left]
  rw [e1]
  have e2 : putAt (A ++ D ++ ys) ((i + 1) * 3) D = A ++ ((D ++ ys).take 3 ++ D) := by
    have e0 : A ++ D ++ ys = A ++ (D ++ ys) := List.append_assoc ..
    unfold putAt
    rw [e0, show (i + 1) * 3 = A.length + 3 by omega, List.take_length_add_append, List.drop_of_length_le (by simp; omega)]
    simp
  rw [e2]
  unfold putAt
  rw [← hA, List.take_left, show A.length + (fF x).length = A.length + 3 by rfl, ← List.drop_drop, List.drop_left]
  have e3 : ((D ++ ys).take 3).length = 3 := by rw [List.length_take, List.length_append]; omega
  have e4 : ((D ++ ys).take 3 ++ D).drop 3 = D := by
    have := List.drop_left (l₁ := (D ++ ys).take 3) (l₂ := D)
    rwa [e3] at this
  rw [e4]
  simp
theorem room_one {l : List F3} {ys : List Value} {i : Nat} (hi : i < l.length) : ∀ u ∈ ((flat fF l ++ ys).drop (i * 3)).take (Nat.min (l.length + 1 - i) (l.length + 1 - (i + 1)) * 3), u.oneCell' = true := by
  have hA : (flat fF (l.take i)).length = i * 3 := by rw [flat_len (sz := 3) (fun _ => rfl), List.length_take, Nat.min_eq_left (by omega)]
  have hD : (flat fF (l.drop i)).length = (l.length - i) * 3 := by rw [flat_len (sz := 3) (fun _ => rfl), List.length_drop]
  have hs : flat fF l = flat fF (l.take i) ++ flat fF (l.drop i) := by rw [← flat_app, List.take_append_drop]
  have hm : Nat.min (l.length + 1 - i) (l.length + 1 - (i + 1)) = l.length - i := by rw [min_def']; split <;> omega
  rw [hm, hs, List.append_assoc, ← hA, List.drop_left, ← hD, List.take_left]
  exact flat_one1 fF_one
theorem one_take {l : List F3} {n : Nat} : ∀ u ∈ (flat fF l).take n, u.oneCell' = true := fun u hu => flat_one1 fF_one u (List.mem_of_mem_take hu)
theorem OwnOk.one2 {base : Nat} {w : World} {e : TypeId} {sz n : Nat} {v : Value} {xs : List Value} {b : Blk} (hM : MemOk [b] w) (h : w.ownsRow base e sz v n xs) (hne : v.ownBlock ≠ some b.g) : OwnOk base [b] [oS e sz v n xs] w :=
  ⟨fun o ho => by obtain rfl := List.mem_singleton.1 ho; exact h, by
    have h2 := ob_nd v
    simpa [Mem.names, oS] using ⟨hne, h2⟩⟩
end Go.Px

namespace Go.Px
set_option linter.unusedVariables false
set_option linter.unusedSimpArgs false
set_option linter.unusedSectionVars false
def dist2 (px py qx qy : Int) : Int := (px - qx) * (px - qx) + (py - qy) * (py - qy)
def clampI (v lo hi : Int) : Int := if hi < (if v < lo then lo else v) then hi else (if v < lo then lo else v)
def gapV (px py x0 y0 x1 y1 : Int) : Int := dist2 px py (clampI px x0 x1) (clampI py y0 y1)
def awayV (px py x0 y0 x1 y1 : Int) : Int := dist2 px py ((x0 + x1) / 2) ((y0 + y1) / 2)
def gapC (px py d x y : Int) : Int := gapV px py (x * side d - 2097152 - side d / 2) (y * side d - 2097152 - side d / 2) (x * side d - 2097152 + side d + side d / 2) (y * side d - 2097152 + side d + side d / 2)
theorem sq_bd {a m : Int} (h : -m ≤ a ∧ a ≤ m) : 0 ≤ a * a ∧ a * a ≤ m * m := by
  have h1 : 0 ≤ (m - a) * (m + a) := Int.mul_nonneg (by omega) (by omega)
  have e : (m - a) * (m + a) = m * m - a * a := by
    rw [Int.sub_mul, Int.mul_add, Int.mul_add, Int.mul_comm a m]
    omega
  have h2 : 0 ≤ a * a := by
    rcases Int.le_total 0 a with h | h
    · exact Int.mul_nonneg h h
    · have := Int.mul_nonneg (a := -a) (b := -a) (by omega) (by omega)
      rwa [Int.neg_mul_neg] at this
  omega
theorem sq_le {a b : Int} (h : -b ≤ a ∧ a ≤ b ∨ b ≤ a ∧ a ≤ -b) : a * a ≤ b * b := by
  rcases h with h | h
  · exact (sq_bd h).2
  · have := (sq_bd (a := a) (m := -b) (by omega)).2
    rwa [Int.neg_mul_neg] at this
theorem clamp_near {p q lo hi : Int} (h : lo ≤ q ∧ q ≤ hi) : (p - clampI p lo hi) * (p - clampI p lo hi) ≤ (p - q) * (p - q) := by
  refine sq_le ?_
  unfold clampI
  repeat' split
  all_goals omega
theorem dist_bd {px py qx qy m : Int} (hx : -m ≤ px - qx ∧ px - qx ≤ m) (hy : -m ≤ py - qy ∧ py - qy ≤ m) : 0 ≤ dist2 px py qx qy ∧ dist2 px py qx qy ≤ m * m + m * m := by
  unfold dist2
  have h1 := sq_bd hx
  have h2 := sq_bd hy
  omega
theorem loose_right {d x y : Int} (h : cellRight d x y = true) : boxRight (x * side d - 2097152 - side d / 2) (y * side d - 2097152 - side d / 2) (x * side d - 2097152 + side d + side d / 2) (y * side d - 2097152 + side d + side d / 2) = true := by
  have hc := cellRight_iff.1 h
  have hs := side_bd (d := d) (by omega)
  have hx := mul_side (d := d) (x := x) (by omega) (by omega)
  have hy := mul_side (d := d) (x := y) (by omega) (by omega)
  refine boxRight_iff.2 ?_
  generalize x * side d = X at *
  generalize y * side d = Y at *
  generalize side d = s at *
  omega
end Go.Px

namespace Go.Px
set_option linter.unusedVariables false
set_option linter.unusedSimpArgs false
set_option linter.unusedSectionVars false
/-- A variable, and the slice of one's own that it holds. -/
def oVS {α : Type} (tS e sz : Nat) (f : α → List Value) (oB : Nat) (sg : Option Addr × Nat) (L : List α) (ψ : Prop) : Own where
  B := oB :: (Value.ownBlock (.slice sg.1 L.length sg.2)).toList
  φ := fun b w => b ≤ oB ∧ w.heap[oB]? = some (.cells ([.slice sg.1 L.length sg.2] : List Value).toArray tS (0, 0)) ∧ w.ownsRow b e sz (.slice sg.1 L.length sg.2) L.length (flat f L) ∧ ψ
  lt' := fun h i hi => by
    rcases List.mem_cons.1 hi with rfl | hi
    · exact ⟨h.1, (Array.getElem?_eq_some_iff.1 h.2.1).1⟩
    · exact h.2.2.1.lt i (mem_ob.1 hi)
  stab := fun h hk hn => ⟨h.1, hk.obj h.2.1 (hn _ (List.mem_cons_self ..)), (oS e sz (.slice sg.1 _ sg.2) _ _).stab h.2.2.1 hk fun i hi => hn i (List.mem_cons_of_mem _ hi), h.2.2.2⟩
  low := fun h hb => ⟨Nat.le_trans hb h.1, h.2.1, own_base h.2.2.1 hb, h.2.2.2⟩
section
variable {α : Type} {tS e sz oB base : Nat} {f : α → List Value} {sg : Option Addr × Nat} {L : List α} {ψ : Prop} {w : World}
theorem openVS (h : (oVS tS e sz f oB sg L ψ).φ base w) (hd : (oVS tS e sz f oB sg L ψ).B.Nodup) : MemOk [⟨oB, tS, [.slice sg.1 L.length sg.2]⟩] w ∧ OwnOk base [⟨oB, tS, [.slice sg.1 L.length sg.2]⟩] [oS e sz (.slice sg.1 L.length sg.2) L.length (flat f L)] w := by
  have hd' : (oB :: (Value.ownBlock (.slice sg.1 L.length sg.2)).toList).Nodup := hd
  refine ⟨⟨fun b hb => ?_, by simp [Mem.names]⟩, ⟨fun o ho => ?_, ?_⟩⟩
  · obtain rfl := List.mem_singleton.1 hb
    exact h.2.1
  · obtain rfl := List.mem_singleton.1 ho
    exact h.2.2.1
  · simpa [Mem.names, oS] using hd'
theorem shutVS {av : Option Addr} {c : Nat} (hM : MemOk [⟨oB, tS, [.slice av L.length c]⟩] w) (hO : OwnOk base [⟨oB, tS, [.slice av L.length c]⟩] [oS e sz (.slice av L.length c) L.length (flat f L)] w) (hb : base ≤ oB) (hψ : ψ) :
    (oVS tS e sz f oB (av, c) L ψ).φ base w ∧ (oVS tS e sz f oB (av, c) L ψ).B.Nodup := by
  refine ⟨⟨hb, hM.at_ _ (List.Mem.head _), hO.own _ (List.Mem.head _), hψ⟩, ?_⟩
  have := hO.nd
  simpa [Mem.names, oS, oVS] using this
end
theorem own_raise {w : World} {base base2 : Nat} {e : TypeId} {sz n : Nat} {v : Value} {xs : List Value} (h : w.ownsRow base e sz v n xs) (hb : ∀ k, v.ownBlock = some k → base2 ≤ k) : w.ownsRow base2 e sz v n xs := by
  refine ⟨h.1, ?_⟩
  rcases h.2 with h1 | ⟨g, cap, cur, rfl, h2, h3, h4⟩
  · exact .inl h1
  · exact .inr ⟨g, cap, cur, rfl, hb g rfl, h3, h4⟩
/-! ### Within a radius -/
def nearB (px py r : Int) (x : H2 × B4) : Bool := decide (awayV px py x.2.x0 x.2.y0 x.2.x1 x.2.y1 ≤ r * r)
def radL (px py r : Int) (bs : List (H2 × B4)) : List H2 := (bs.filter (nearB px py r)).map (·.1)
theorem radL_snoc {px py r : Int} {vis : List (H2 × B4)} {h : H2} {b : B4} : radL px py r (vis ++ [(h, b)]) = if awayV px py b.x0 b.y0 b.x1 b.y1 ≤ r * r then radL px py r vis ++ [h] else radL px py r vis := by
  unfold radL
  rw [List.filter_append, List.map_append, List.filter_cons]
  unfold nearB
  by_cases hr : awayV px py b.x0 b.y0 b.x1 b.y1 ≤ r * r
  · simp [hr]
  · simp [hr]
theorem radL_len (px py r : Int) (bs : List (H2 × B4)) : (radL px py r bs).length ≤ bs.length := by
  unfold radL
  rw [List.length_map]
  exact List.length_filter_le _ _
theorem radL_all {px py r : Int} {vis blk bs : List (H2 × B4)} (hp : (vis ++ blk).Perm bs) (hb : ∀ x ∈ blk, nearB px py r x = false) : ordS ltH (radL px py r vis) = ordS ltH (radL px py r bs) := by
  refine ordS_ext ordH fun h => ?_
  have e : ((vis ++ blk).filter (nearB px py r)) = vis.filter (nearB px py r) := by
    have h0 : blk.filter (nearB px py r) = [] := List.filter_eq_nil_iff.2 (fun x hx => by rw [hb x hx]; simp)
    rw [List.filter_append, h0, List.append_nil]
  have h1 := ((hp.filter (nearB px py r)).map (·.1)).mem_iff (a := h)
  rw [e] at h1
  exact h1
/-! ### What a cell's boxes are at least away -/
theorem loose_up {c : C3} (hc : okC c = true) (h0 : c.d ≠ 0) :
    (upC c).x * side (upC c).d - side (upC c).d / 2 ≤ c.x * side c.d - side c.d / 2 ∧ c.x * side c.d + side c.d + side c.d / 2 ≤ (upC c).x * side (upC c).d + side (upC c).d + side (upC c).d / 2 ∧
    (upC c).y * side (upC c).d - side (upC c).d / 2 ≤ c.y * side c.d - side c.d / 2 ∧ c.y * side c.d + side c.d + side c.d / 2 ≤ (upC c).y * side (upC c).d + side (upC c).d + side (upC c).d / 2 := by
  have h1 := (okC_iff.1 hc).1
  have hx := up_loose (d := c.d) (x := c.x) (by omega)
  have hy := up_loose (d := c.d) (x := c.y) (by omega)
  exact ⟨hx.1, hx.2, hy.1, hy.2⟩
theorem in_chain {b : B4} (hb : okB b = true) : ∀ c ∈ chain (cellB b), c.x * side c.d - 2097152 - side c.d / 2 ≤ b.x0 ∧ b.x1 ≤ c.x * side c.d - 2097152 + side c.d + side c.d / 2 ∧ c.y * side c.d - 2097152 - side c.d / 2 ≤ b.y0 ∧ b.y1 ≤ c.y * side c.d - 2097152 + side c.d + side c.d / 2 := by
  have hb' := hb
  unfold okB at hb'
  rw [Bool.and_eq_true] at hb'
  have hr := boxRight_iff.1 hb'.1
  have hw := inWorld_iff.1 hb'.2
  have hm : bsize b.x0 b.y0 b.x1 b.y1 ≤ 4194304 := by unfold bsize; split <;> omega
  have hbs := bsize_spec b.x0 b.y0 b.x1 b.y1
  have hx := in_loose (a := b.x0) (b := b.x1) (m := bsize b.x0 b.y0 b.x1 b.y1) (by omega) (by omega)
  have hy := in_loose (a := b.y0) (b := b.y1) (m := bsize b.x0 b.y0 b.x1 b.y1) (by omega) (by omega)
  have key : ∀ z, okC z = true → (z.x * side z.d - 2097152 - side z.d / 2 ≤ b.x0 ∧ b.x1 ≤ z.x * side z.d - 2097152 + side z.d + side z.d / 2 ∧ z.y * side z.d - 2097152 - side z.d / 2 ≤ b.y0 ∧ b.y1 ≤ z.y * side z.d - 2097152 + side z.d + side z.d / 2) →
      ∀ c ∈ chain z, c.x * side c.d - 2097152 - side c.d / 2 ≤ b.x0 ∧ b.x1 ≤ c.x * side c.d - 2097152 + side c.d + side c.d / 2 ∧ c.y * side c.d - 2097152 - side c.d / 2 ≤ b.y0 ∧ b.y1 ≤ c.y * side c.d - 2097152 + side c.d + side c.d / 2 := fun z hz => by
    refine chain_ind (m := fun z => (z.x * side z.d - 2097152 - side z.d / 2 ≤ b.x0 ∧ b.x1 ≤ z.x * side z.d - 2097152 + side z.d + side z.d / 2 ∧ z.y * side z.d - 2097152 - side z.d / 2 ≤ b.y0 ∧ b.y1 ≤ z.y * side z.d - 2097152 + side z.d + side z.d / 2) →
      ∀ c ∈ chain z, c.x * side c.d - 2097152 - side c.d / 2 ≤ b.x0 ∧ b.x1 ≤ c.x * side c.d - 2097152 + side c.d + side c.d / 2 ∧ c.y * side c.d - 2097152 - side c.d / 2 ≤ b.y0 ∧ b.y1 ≤ c.y * side c.d - 2097152 + side c.d + side c.d / 2) (fun z hz h0 h c hc => ?_) (fun z hz h0 ih h c hc => ?_) z hz
    · rw [chain_zero h0] at hc
      obtain rfl := List.mem_singleton.1 hc
      exact h
    · rw [chain_step hz h0] at hc
      rcases List.mem_cons.1 hc with rfl | hc
      · exact h
      · have hl := loose_up hz h0
        refine ih ?_ c hc
        generalize (upC z).x * side (upC z).d = X at *
        generalize (upC z).y * side (upC z).d = Y at *
        generalize z.x * side z.d = X' at *
        generalize z.y * side z.d = Y' at *
        generalize side (upC z).d = s at *
        generalize side z.d = s' at *
        omega
  exact key _ (okC_cell hb) ⟨hx.1, hx.2, hy.1, hy.2⟩
theorem gap_le {px py : Int} {b : B4} (hb : okB b = true) {c : C3} (hc : c ∈ chain (cellB b)) : gapC px py c.d c.x c.y ≤ awayV px py b.x0 b.y0 b.x1 b.y1 := by
  have h1 := in_chain hb c hc
  unfold okB at hb
  rw [Bool.and_eq_true] at hb
  have hr := boxRight_iff.1 hb.1
  have hx := clamp_near (p := px) (q := (b.x0 + b.x1) / 2) (lo := c.x * side c.d - 2097152 - side c.d / 2) (hi := c.x * side c.d - 2097152 + side c.d + side c.d / 2) (by generalize c.x * side c.d = X at *; generalize side c.d = s at *; omega)
  have hy := clamp_near (p := py) (q := (b.y0 + b.y1) / 2) (lo := c.y * side c.d - 2097152 - side c.d / 2) (hi := c.y * side c.d - 2097152 + side c.d + side c.d / 2) (by generalize c.y * side c.d = X at *; generalize side c.d = s at *; omega)
  unfold gapC gapV awayV dist2
  exact Int.add_le_add hx hy
theorem rad_bad {px py r : Int} {bs : List (H2 × B4)} (hok : ∀ x ∈ bs, okB x.2 = true) {c : C3} (h : decide (gapC px py c.d c.x c.y ≤ r * r) = false) : ∀ x ∈ inT bs c, nearB px py r x = false := fun x hx => by
  have h1 := mem_inT.1 hx
  have h2 := gap_le (px := px) (py := py) (hok x h1.1) h1.2
  have h3 := of_decide_eq_false h
  unfold nearB
  exact decide_eq_false (by omega)
end Go.Px

namespace Go.Px
set_option linter.unusedVariables false
set_option linter.unusedSimpArgs false
set_option linter.unusedSectionVars false
def cmpF (x y : F3) : Int := orI (cmpN x.a y.a) (orI (cmpN x.i y.i) (cmpN x.g y.g))
def ltF (x y : F3) : Bool := decide (x.a < y.a ∨ x.a = y.a ∧ (x.i < y.i ∨ x.i = y.i ∧ x.g < y.g))
theorem f3_ext {x y : F3} (h1 : x.i = y.i) (h2 : x.g = y.g) (h3 : x.a = y.a) : x = y := by cases x; cases y; simp_all
theorem cmpF_neg (x y : F3) : cmpF x y < 0 ↔ ltF x y = true := by
  unfold cmpF ltF orI cmpN
  rw [decide_eq_true_iff]
  repeat' split
  all_goals omega
theorem cmpF_zero (x y : F3) : cmpF x y = 0 ↔ x = y := by
  constructor
  · intro h
    unfold cmpF orI cmpN at h
    refine f3_ext ?_ ?_ ?_ <;> (repeat' split at h) <;> omega
  · rintro rfl
    simp [cmpF, orI, cmpN]
theorem ordF : Ord ltF := by
  refine ⟨fun x => by simp [ltF], fun x y z h1 h2 => ?_, fun x y => ?_⟩
  · simp only [ltF, decide_eq_true_eq] at *
    omega
  · simp only [ltF, decide_eq_true_eq]
    by_cases h : x = y
    · exact .inr (.inl h)
    · have : ¬ (x.i = y.i ∧ x.g = y.g ∧ x.a = y.a) := fun h2 => h (f3_ext h2.1 h2.2.1 h2.2.2)
      omega
theorem half_inF {l : List F3} {t d : F3} {i : Int} (hl : Rises ltF l) (hi : i = (pos ltF l t : Nat)) (h : i < (l.length : Int)) : (cmpF (l.getD i.toNat d) t == 0) = inS l t := by
  rw [half_in ordF hl hi h (d := d), Bool.eq_iff_iff, beq_iff_eq, decide_eq_true_iff]
  exact cmpF_zero _ _
theorem tw_all {α : Type} {p : α → Bool} : ∀ {l : List α}, (∀ y ∈ l, p y = true) → l.takeWhile p = l ∧ l.dropWhile p = []
  | [], _ => ⟨rfl, rfl⟩
  | y :: r, h => by
    have h1 := h y (List.mem_cons_self ..)
    have h2 := tw_all (l := r) fun z hz => h z (List.mem_cons_of_mem _ hz)
    rw [List.takeWhile_cons, List.dropWhile_cons, h1]
    simp only [if_true]
    exact ⟨by rw [h2.1], h2.2⟩
section
variable {α : Type} [DecidableEq α] {lt : α → α → Bool}
/-- One is put in ahead of those that aren't less. -/
def insL (lt : α → α → Bool) (l : List α) (x : α) : List α := l.takeWhile (fun y => lt y x) ++ x :: l.dropWhile (fun y => lt y x)
theorem insL_pos (l : List α) (x : α) : l.take (pos lt l x) ++ x :: l.drop (pos lt l x) = insL lt l x := by
  unfold insL
  rw [takeWhile_pos, dropWhile_pos]
theorem insL_cons (l : List α) (x y : α) : insL lt (y :: l) x = if lt y x then y :: insL lt l x else x :: y :: l := by
  unfold insL
  rw [List.takeWhile_cons, List.dropWhile_cons]
  cases lt y x <;> rfl
theorem insL_len (l : List α) (x : α) : (insL lt l x).length = l.length + 1 := by
  rw [← insL_pos, List.length_append, List.length_cons, List.length_take, List.length_drop]
  have := pos_le (lt := lt) l x
  omega
theorem mem_insL {l : List α} {x y : α} (h : y ∈ insL lt l x) : y ∈ l ∨ y = x := by
  rw [← insL_pos] at h
  rcases List.mem_append.1 h with h | h
  · exact .inl (List.mem_of_mem_take h)
  · rcases List.mem_cons.1 h with h | h
    · exact .inr h
    · exact .inl (List.mem_of_mem_drop h)
theorem take_ins : ∀ (m : List α) (k : Nat) (x : α), (insL lt (m.take k) x).take k = (insL lt m x).take k
  | [], k, x => by simp
  | y :: r, 0, x => by simp
  | y :: r, k + 1, x => by
    rw [List.take_succ_cons, insL_cons, insL_cons]
    cases lt y x with
    | true =>
      simp only [if_true, List.take_succ_cons]
      rw [take_ins r k x]
    | false =>
      simp only [Bool.false_eq_true, if_false, List.take_succ_cons]
      cases k with
      | zero => rfl
      | succ k => simp [List.take_take]
theorem insL_put {l : List α} {x : α} (h : ¬ x ∈ l) : insL lt l x = putS lt l x := by
  unfold insL putS
  rw [if_neg h]
theorem insL_end {l : List α} {x : α} (h : ∀ y ∈ l, lt y x = true) : insL lt l x = l ++ [x] := by
  unfold insL
  have h1 := tw_all (p := fun y => lt y x) h
  rw [h1.1, h1.2]
/-- Of those that come behind the first ones, none is among them. -/
theorem take_far {m : List α} {k : Nat} {x : α} (hk : (m.take k).length = k) (h : ∀ y ∈ m.take k, lt y x = true) : (putS lt m x).take k = m.take k := by
  by_cases hx : x ∈ m
  · unfold putS
    rw [if_pos hx]
  · rw [← insL_put hx, ← take_ins, insL_end h, List.take_append_of_le_length (by omega), List.take_of_length_le (by omega)]
theorem rises_take {l : List α} (h : Rises lt l) (k : Nat) : Rises lt (l.take k) := h.sublist (List.take_sublist _ _)
end
/-! ### The nearest ones -/
def toF (px py : Int) (x : H2 × B4) : F3 := ⟨x.1.i, x.1.g, awayV px py x.2.x0 x.2.y0 x.2.x1 x.2.y1⟩
def hF (x : F3) : H2 := ⟨x.i, x.g⟩
def fndL (px py k : Int) (vis : List (H2 × B4)) : List F3 := (ordS ltF (vis.map (toF px py))).take k.toNat
def nearL (px py k : Int) (bs : List (H2 × B4)) : List H2 := (fndL px py k bs).map hF
theorem fndL_rises (px py k : Int) (vis : List (H2 × B4)) : Rises ltF (fndL px py k vis) := rises_take (ordS_rises ordF _) _
theorem fndL_len (px py k : Int) (vis : List (H2 × B4)) : (fndL px py k vis).length ≤ vis.length ∧ (fndL px py k vis).length ≤ k.toNat := by
  unfold fndL
  have h := ordS_len (lt := ltF) (vis.map (toF px py))
  rw [List.length_map] at h
  rw [List.length_take]
  omega
theorem fndL_snoc {px py k : Int} {vis : List (H2 × B4)} {x : H2} {v : B4} (hn : ¬ x ∈ vis.map (·.1)) : (insL ltF (fndL px py k vis) (toF px py (x, v))).take k.toNat = fndL px py k (vis ++ [(x, v)]) := by
  unfold fndL
  rw [take_ins, List.map_append, List.map_cons, List.map_nil, ordS_snoc, insL_put]
  intro hm
  rw [mem_ordS] at hm
  obtain ⟨y, hy, e⟩ := List.mem_map.1 hm
  refine hn (List.mem_map.2 ⟨y, hy, ?_⟩)
  have h1 := congrArg F3.i e
  have h2 := congrArg F3.g e
  exact h2_ext h1 h2
/-- A box that comes behind so many that were found. -/
def FarF (k : Int) (L : List F3) (x : F3) : Prop := L.length = k.toNat ∧ ∀ y ∈ L, y.a < x.a
theorem FarF.next {k : Int} {L : List F3} {x z : F3} (h : FarF k L x) : FarF k ((insL ltF L z).take k.toNat) x := by
  refine ⟨by rw [List.length_take, insL_len, h.1]; omega, fun y hy => ?_⟩
  rw [← insL_pos] at hy
  have hp := pos_le (lt := ltF) L z
  have hl : (L.take (pos ltF L z)).length = pos ltF L z := by rw [List.length_take]; omega
  rcases Nat.lt_or_ge (pos ltF L z) L.length with hlt | hge
  · have hge0 : (L.getD (pos ltF L z) z).a < x.a := h.2 _ (by rw [List.getD_eq_getElem?_getD, List.getElem?_eq_getElem hlt]; exact List.getElem_mem _)
    rcases List.mem_append.1 (List.mem_of_mem_take hy) with hy | hy
    · exact h.2 y (List.mem_of_mem_take hy)
    · rcases List.mem_cons.1 hy with rfl | hy
      · have hno : ltF (L.getD (pos ltF L y) y) y = false := by
          cases hh : ltF (L.getD (pos ltF L y) y) y with
          | false => rfl
          | true =>
            have hd : L.dropWhile (fun q => ltF q y) = L.drop (pos ltF L y) := dropWhile_pos L y
            have hg : (L.drop (pos ltF L y)) = L.getD (pos ltF L y) y :: L.drop (pos ltF L y + 1) := by
              rw [List.getD_eq_getElem?_getD, List.getElem?_eq_getElem hlt]
              exact List.drop_eq_getElem_cons hlt
            have := List.head?_dropWhile_not (fun q => ltF q y) L
            rw [hd, hg] at this
            simp only [List.head?_cons] at this
            rw [this] at hh
            cases hh
        simp only [ltF, decide_eq_false_iff_not] at hno
        omega
      · exact h.2 y (List.mem_of_mem_drop hy)
  · have e : L.take (pos ltF L z) = L := List.take_of_length_le hge
    rw [e, List.take_append_of_le_length (by rw [h.1]; omega), List.take_of_length_le (by rw [h.1]; omega)] at hy
    exact h.2 y hy
theorem fndL_all {px py k : Int} {vis : List (H2 × B4)} : ∀ {blk : List (H2 × B4)}, (∀ x ∈ blk, FarF k (fndL px py k vis) (toF px py x)) → fndL px py k (vis ++ blk) = fndL px py k vis := fun {blk} h => by
  have key : ∀ (blk : List (H2 × B4)) (m : List F3), (∀ x ∈ blk, FarF k (m.take k.toNat) (toF px py x)) → ((blk.map (toF px py)).foldl (putS ltF) m).take k.toNat = m.take k.toNat := fun blk => by
    induction blk with
    | nil => exact fun m _ => rfl
    | cons x r ih =>
      intro m hm
      have hx := hm x (List.mem_cons_self ..)
      have e : (putS ltF m (toF px py x)).take k.toNat = m.take k.toNat := take_far hx.1 (fun y hy => by
        have := hx.2 y hy
        simp only [ltF, decide_eq_true_eq]
        omega)
      rw [List.map_cons, List.foldl_cons, ih _ (fun z hz => by rw [e]; exact hm z (List.mem_cons_of_mem _ hz)), e]
  unfold fndL ordS
  rw [List.map_append, List.foldl_append]
  exact key blk _ h
theorem fndL_perm {px py k : Int} {vis blk bs : List (H2 × B4)} (hp : (vis ++ blk).Perm bs) (hb : ∀ x ∈ blk, FarF k (fndL px py k vis) (toF px py x)) : fndL px py k vis = fndL px py k bs := by
  rw [← fndL_all hb]
  unfold fndL
  rw [ordS_ext ordF (fun x => (hp.map (toF px py)).mem_iff)]
/-- Is a cell entered? -/
def nearE (px py k : Int) (L : List F3) (c : C3) : Bool := decide ((L.length : Int) < k) || (decide (k > 0) && decide (gapC px py c.d c.x c.y ≤ (L.getD (k - 1).toNat ⟨0, 0, 0⟩).a))
theorem last_max {L : List F3} (h : Rises ltF L) {y d : F3} (hy : y ∈ L) : y.a ≤ (L.getD (L.length - 1) d).a := by
  obtain ⟨i, hi, rfl⟩ := List.getElem_of_mem hy
  rw [List.getD_eq_getElem?_getD, List.getElem?_eq_getElem (by omega)]
  show L[i].a ≤ L[L.length - 1].a
  rcases Nat.lt_or_ge i (L.length - 1) with h1 | h1
  · have := List.pairwise_iff_getElem.1 h i (L.length - 1) hi (by omega) h1
    simp only [ltF, decide_eq_true_eq] at this
    omega
  · have e : i = L.length - 1 := by omega
    subst e
    exact Int.le_refl _
theorem near_bad {px py k : Int} {bs : List (H2 × B4)} (hok : ∀ x ∈ bs, okB x.2 = true) (hk : 0 ≤ k) {L : List F3} (hr : Rises ltF L) (hl : L.length ≤ k.toNat) {c : C3} (h : nearE px py k L c = false) : ∀ x ∈ inT bs c, FarF k L (toF px py x) := fun x hx => by
  unfold nearE at h
  simp only [Bool.or_eq_false_iff, Bool.and_eq_false_iff, decide_eq_false_iff_not] at h
  have h1 := mem_inT.1 hx
  have h2 := gap_le (px := px) (py := py) (hok x h1.1) h1.2
  have hlk : L.length = k.toNat := by omega
  refine ⟨hlk, fun y hy => ?_⟩
  have h3 := last_max hr (d := ⟨0, 0, 0⟩) hy
  have hk0 : 0 < k := by
    have : 0 < L.length := List.length_pos_of_mem hy
    omega
  have e : (k - 1).toNat = L.length - 1 := by omega
  rw [e] at h
  have h4 : ¬ gapC px py c.d c.x c.y ≤ (L.getD (L.length - 1) ⟨0, 0, 0⟩).a := h.2.resolve_left (by omega)
  show y.a < awayV px py x.2.x0 x.2.y0 x.2.x1 x.2.y1
  omega
theorem not_seen {vis blk bs : List (H2 × B4)} {x : H2} {v : B4} (hd : (bs.map (·.1)).Nodup) (hr : ∃ rest, ((vis ++ [(x, v)]) ++ blk ++ rest).Perm bs) : ¬ x ∈ vis.map (·.1) := fun hm => by
  obtain ⟨rest, hr⟩ := hr
  have h2 := (hr.map (·.1)).nodup_iff.2 hd
  simp only [List.map_append, List.append_assoc] at h2
  exact (List.nodup_append.1 h2).2.2 x hm x (by simp) rfl
end Go.Px

namespace Go.Px
set_option linter.unusedVariables false
set_option linter.unusedSimpArgs false
set_option linter.unusedSectionVars false
def bsy (l : List B4) (n : Nat) : List (H2 × B4) := (List.range n).map fun k : Nat => ((⟨((k : Int) * 7) % 61, 1⟩ : H2), l.getD k ⟨0, 0, 0, 0⟩)
theorem bsy_succ (l : List B4) {i : Int} (h : 0 ≤ i) : bsy l (i + 1).toNat = bsy l i.toNat ++ [(⟨i * 7 % 61, 1⟩, l.getD i.toNat ⟨0, 0, 0, 0⟩)] := by
  obtain ⟨n, rfl⟩ := Int.eq_ofNat_of_zero_le h
  rw [show ((n : Int) + 1).toNat = n + 1 by omega, show ((n : Int)).toNat = n by omega]
  unfold bsy
  rw [List.range_succ, List.map_append]
  rfl
theorem mem_bsy {l : List B4} {n : Nat} {x : H2 × B4} : x ∈ bsy l n ↔ ∃ k, k < n ∧ x = (⟨((k : Int) * 7) % 61, 1⟩, l.getD k ⟨0, 0, 0, 0⟩) := by
  unfold bsy
  simp only [List.mem_map, List.mem_range]
  constructor
  · rintro ⟨k, hk, rfl⟩; exact ⟨k, hk, rfl⟩
  · rintro ⟨k, hk, rfl⟩; exact ⟨k, hk, rfl⟩
theorem bsy_new (l : List B4) {i : Int} (h : 0 ≤ i ∧ i < 61) : ¬ (⟨i * 7 % 61, 1⟩ : H2) ∈ (bsy l i.toNat).map (·.1) := fun hm => by
  obtain ⟨x, hx, e⟩ := List.mem_map.1 hm
  obtain ⟨k, hk, rfl⟩ := mem_bsy.1 hx
  simp only [H2.mk.injEq] at e
  omega
theorem bsy_len (l : List B4) (n : Nat) : (bsy l n).length = n := by simp [bsy]
theorem rem61 {i : Int} (h : 0 ≤ i) : Value.int .i64 (Int.tmod (i * 7) 61) = .int .i64 (i * 7 % 61) := by
  rw [Int.tmod_eq_emod_of_nonneg (by omega)]
/-- Can they all be put? -/
def goodL (l : List B4) : Bool := decide (l.length ≤ 60) && l.all okB
theorem goodL_of {l : List B4} (h : l.length ≤ 60) (hg : ∀ j, j < l.length → okB (l.getD j ⟨0, 0, 0, 0⟩) = true) : goodL l = true := by
  unfold goodL
  rw [Bool.and_eq_true]
  refine ⟨decide_eq_true h, List.all_eq_true.2 fun b hb => ?_⟩
  obtain ⟨i, hi, rfl⟩ := List.getElem_of_mem hb
  have := hg i hi
  rwa [List.getD_eq_getElem?_getD, List.getElem?_eq_getElem hi] at this
theorem goodL_at {l : List B4} (h : goodL l = true) : l.length ≤ 60 ∧ ∀ j, j < l.length → okB (l.getD j ⟨0, 0, 0, 0⟩) = true := by
  unfold goodL at h
  rw [Bool.and_eq_true] at h
  refine ⟨of_decide_eq_true h.1, fun j hj => ?_⟩
  rw [List.getD_eq_getElem?_getD, List.getElem?_eq_getElem hj]
  exact List.all_eq_true.1 h.2 _ (List.getElem_mem hj)
def fBx (x : H2 × B4) : List Value := [.int .i64 x.1.i, .int .i64 x.1.g, .int .i64 x.2.x0, .int .i64 x.2.y0, .int .i64 x.2.x1, .int .i64 x.2.y1]
theorem fBx_one (x : H2 × B4) : ∀ u ∈ fBx x, u.oneCell' = true := by
  intro u hu
  simp only [fBx, List.mem_cons, List.not_mem_nil, or_false] at hu
  rcases hu with rfl | rfl | rfl | rfl | rfl | rfl <;> rfl
/-- Two things of one's own. -/
def oAnd (o1 o2 : Own) : Own where
  B := o1.B ++ o2.B
  φ := fun b w => o1.φ b w ∧ o2.φ b w
  lt' := fun h i hi => (List.mem_append.1 hi).elim (o1.lt' h.1 i) (o2.lt' h.2 i)
  stab := fun h hk hn => ⟨o1.stab h.1 hk fun i hi => hn i (List.mem_append.2 (.inl hi)), o2.stab h.2 hk fun i hi => hn i (List.mem_append.2 (.inr hi))⟩
  low := fun h hb => ⟨o1.low h.1 hb, o2.low h.2 hb⟩
theorem OwnOk.split {base : Nat} {M : Mem} {O : List Own} {w : World} {o1 o2 : Own} (h : OwnOk base M (oAnd o1 o2 :: O) w) : OwnOk base M (o1 :: o2 :: O) w := by
  have h1 := h.own _ (List.mem_cons_self ..)
  refine ⟨fun o ho => ?_, by simpa [oAnd, List.append_assoc] using h.nd⟩
  rcases List.mem_cons.1 ho with rfl | ho
  · exact h1.1
  · rcases List.mem_cons.1 ho with rfl | ho
    · exact h1.2
    · exact h.own o (List.mem_cons_of_mem _ ho)
theorem OwnOk.both {base : Nat} {M : Mem} {O : List Own} {w : World} {o1 o2 : Own} (h : OwnOk base M (o1 :: o2 :: O) w) : (oAnd o1 o2).φ base w ∧ (oAnd o1 o2).B.Nodup := by
  refine ⟨⟨h.own _ (List.mem_cons_self ..), h.own _ (List.mem_cons_of_mem _ (List.mem_cons_self ..))⟩, ?_⟩
  have h1 := (List.nodup_append.1 h.nd).2.1
  rw [List.flatMap_cons, List.flatMap_cons, ← List.append_assoc] at h1
  exact (List.nodup_append.1 h1).1
/-! ### A greater radius has no less -/
theorem mem_radL {px py r : Int} {bs : List (H2 × B4)} {h : H2} : h ∈ radL px py r bs ↔ ∃ x ∈ bs, awayV px py x.2.x0 x.2.y0 x.2.x1 x.2.y1 ≤ r * r ∧ x.1 = h := by
  unfold radL nearB
  simp only [List.mem_map, List.mem_filter, decide_eq_true_eq, and_assoc]
theorem sq_mono {r s : Int} (h : 0 ≤ r ∧ r ≤ s) : r * r ≤ s * s := Int.mul_le_mul h.2 h.2 h.1 (by omega)
theorem rad_sub {px py r : Int} {bs : List (H2 × B4)} (hr : 0 ≤ r) {h : H2} (hm : h ∈ ordS ltH (radL px py r bs)) : h ∈ ordS ltH (radL px py (r + 1) bs) := by
  rw [mem_ordS] at *
  obtain ⟨x, hx, ha, he⟩ := mem_radL.1 hm
  exact mem_radL.2 ⟨x, hx, Int.le_trans ha (sq_mono ⟨hr, by omega⟩), he⟩
theorem nodup_sub_len {α : Type} [DecidableEq α] : ∀ {l m : List α}, l.Nodup → (∀ x ∈ l, x ∈ m) → l.length ≤ m.length
  | [], _, _, _ => Nat.zero_le _
  | x :: r, m, hd, h => by
    have hd' := List.nodup_cons.1 hd
    have h1 : (r.length) ≤ (m.erase x).length := nodup_sub_len hd'.2 fun y hy => (List.mem_erase_of_ne (fun e => hd'.1 (by rw [← e]; exact hy))).2 (h y (List.mem_cons_of_mem _ hy))
    have h2 : x ∈ m := h x (List.mem_cons_self ..)
    rw [List.length_erase_of_mem h2] at h1
    have := List.length_pos_of_mem h2
    rw [List.length_cons]
    omega
theorem rad_len {px py r : Int} {bs : List (H2 × B4)} (hr : 0 ≤ r) : (ordS ltH (radL px py r bs)).length ≤ (ordS ltH (radL px py (r + 1) bs)).length :=
  nodup_sub_len ((ordS_rises ordH _).nodup ordH) fun h hm => rad_sub hr hm
theorem map_inj_nd {α β : Type} {f : α → β} : ∀ {l : List α}, (∀ x ∈ l, ∀ y ∈ l, f x = f y → x = y) → l.Nodup → (l.map f).Nodup
  | [], _, _ => by simp
  | x :: r, h, hd => by
    have hd' := List.nodup_cons.1 hd
    rw [List.map_cons, List.nodup_cons]
    refine ⟨fun hm => ?_, map_inj_nd (fun a ha b hb => h a (List.mem_cons_of_mem _ ha) b (List.mem_cons_of_mem _ hb)) hd'.2⟩
    obtain ⟨y, hy, e⟩ := List.mem_map.1 hm
    have := h y (List.mem_cons_of_mem _ hy) x (List.mem_cons_self ..) e
    subst this
    exact hd'.1 hy
theorem keys_inj {κ ν : Type} : ∀ {l : List (κ × ν)}, (l.map (·.1)).Nodup → ∀ {x y : κ × ν}, x ∈ l → y ∈ l → x.1 = y.1 → x = y
  | [], _, _, _, hx, _, _ => by cases hx
  | z :: r, hd, x, y, hx, hy, e => by
    rw [List.map_cons, List.nodup_cons] at hd
    rcases List.mem_cons.1 hx with hx | hx
    · rcases List.mem_cons.1 hy with hy | hy
      · rw [hx, hy]
      · exact absurd (List.mem_map.2 ⟨y, hy, by rw [← e, hx]⟩) hd.1
    · rcases List.mem_cons.1 hy with hy | hy
      · exact absurd (List.mem_map.2 ⟨x, hx, by rw [e, hy]⟩) hd.1
      · exact keys_inj hd.2 hx hy e
/-- All those within a radius are the nearest ones. -/
theorem rad_first {px py r : Int} {bs : List (H2 × B4)} (hd : (bs.map (·.1)).Nodup) : (nearL px py (((ordS ltH (radL px py r bs)).length : Nat) : Int) bs).length = (ordS ltH (radL px py r bs)).length ∧ ∀ h ∈ ordS ltH (radL px py r bs), h ∈ nearL px py (((ordS ltH (radL px py r bs)).length : Nat) : Int) bs := by
  obtain ⟨A, hA⟩ : ∃ A, A = ordS ltF (bs.map (toF px py)) := ⟨_, rfl⟩
  have hAr : Rises ltF A := hA ▸ ordS_rises ordF _
  have hAm : ∀ y, y ∈ A ↔ ∃ x ∈ bs, toF px py x = y := fun y => by rw [hA, mem_ordS, List.mem_map]
  -- those within, among all in order, are the first ones
  obtain ⟨I, hI⟩ : ∃ I, I = A.filter fun y => decide (y.a ≤ r * r) := ⟨_, rfl⟩
  obtain ⟨D, hD⟩ : ∃ D, D = A.filter fun y => !decide (y.a ≤ r * r) := ⟨_, rfl⟩
  have hsp : A = I ++ D := by
    refine Rises.ext ordF hAr ?_ fun x => ?_
    · refine List.pairwise_append.2 ⟨hI ▸ hAr.sublist List.filter_sublist, hD ▸ hAr.sublist List.filter_sublist, fun x hx y hy => ?_⟩
      rw [hI] at hx
      rw [hD] at hy
      have h1 := of_decide_eq_true (List.mem_filter.1 hx).2
      have h2 := (List.mem_filter.1 hy).2
      simp only [Bool.not_eq_true', decide_eq_false_iff_not] at h2
      simp only [ltF, decide_eq_true_eq]
      omega
    · rw [hI, hD, List.mem_append, List.mem_filter, List.mem_filter]
      by_cases h : x.a ≤ r * r <;> simp [h]
  have hinj : ∀ x ∈ A, ∀ y ∈ A, hF x = hF y → x = y := fun x hx y hy e => by
    obtain ⟨u, hu, rfl⟩ := (hAm x).1 hx
    obtain ⟨v, hv, rfl⟩ := (hAm y).1 hy
    have e1 : u.1 = v.1 := by
      have h1 := congrArg H2.i e
      have h2 := congrArg H2.g e
      exact h2_ext h1 h2
    have e2 : u = v := keys_inj hd hu hv e1
    rw [e2]
  have hmem : ∀ h, h ∈ I.map hF ↔ h ∈ ordS ltH (radL px py r bs) := fun h => by
    rw [mem_ordS, mem_radL, List.mem_map]
    constructor
    · rintro ⟨y, hy, rfl⟩
      rw [hI] at hy
      have hy' := List.mem_filter.1 hy
      obtain ⟨x, hx, rfl⟩ := (hAm y).1 hy'.1
      exact ⟨x, hx, of_decide_eq_true hy'.2, rfl⟩
    · rintro ⟨x, hx, ha, rfl⟩
      exact ⟨toF px py x, hI ▸ List.mem_filter.2 ⟨(hAm _).2 ⟨x, hx, rfl⟩, decide_eq_true ha⟩, rfl⟩
  have hIs : ∀ x ∈ I, x ∈ A := fun x hx => (List.mem_filter.1 (hI ▸ hx)).1
  have hInd : (I.map hF).Nodup := map_inj_nd (fun x hx y hy => hinj x (hIs x hx) y (hIs y hy)) (hI ▸ (hAr.nodup ordF).sublist List.filter_sublist)
  have hlen : I.length = (ordS ltH (radL px py r bs)).length := by
    have h1 := nodup_sub_len hInd fun h hh => (hmem h).1 hh
    have h2 := nodup_sub_len ((ordS_rises ordH (radL px py r bs)).nodup ordH) fun h hh => (hmem h).2 hh
    rw [List.length_map] at h1 h2
    omega
  have hn : nearL px py (((ordS ltH (radL px py r bs)).length : Nat) : Int) bs = I.map hF := by
    unfold nearL fndL
    rw [← hA, Int.toNat_natCast, ← hlen, hsp, List.take_left]
  rw [hn]
  exact ⟨by rw [List.length_map, hlen], fun h hh => (hmem h).2 hh⟩
theorem bsy_nd (l : List B4) {n : Nat} (hn : n ≤ 61) : ((bsy l n).map (·.1)).Nodup := by
  unfold bsy
  rw [List.map_map]
  refine map_inj_nd (fun a ha b hb e => ?_) List.nodup_range
  have h1 := List.mem_range.1 ha
  have h2 := List.mem_range.1 hb
  simp only [Function.comp, H2.mk.injEq] at e
  omega
end Go.Px
