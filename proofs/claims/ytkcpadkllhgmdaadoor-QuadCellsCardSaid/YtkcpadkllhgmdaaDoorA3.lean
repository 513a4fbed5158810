/- layer 12 -/
import Derived.Test.YtkcpadkllhgmdaaDoorA2
namespace Go.Proofs.YtkcpadkllhgmdaaDoor
open Go.Px
set_option linter.unusedVariables false
set_option linter.unusedSimpArgs false
theorem enters34 : enters Tryd.prog 34 := ⟨_, Tryd.func34, by kernel_rfl, rfl⟩
theorem enters35 : enters Tryd.prog 35 := ⟨_, Tryd.func35, by kernel_rfl, rfl⟩
theorem enters36 : enters Tryd.prog 36 := ⟨_, Tryd.func36, by kernel_rfl, rfl⟩

set_option maxRecDepth 10000 in
theorem of_form (E : Nat → Addr) (x0 y0 x1 y1 : Int) (w : World) (hn0 : (boxRight x0 y0 x1 y1) = false) (hG : Errs 10 w 115 E) :
    Calls Tryd.prog 16 #[.agg #[.int .i64 x0, .int .i64 y0, .int .i64 x1, .int .i64 y1]] w (Ret fun v w' => v = .tuple #[.agg #[.int .i64 0, .int .i64 0, .int .i64 0], .iface 115 (.pointer (some (E 6)))] ∧ Keep Nn w w') := by
  refine sxenter (n := 76) (args := [.agg #[.int .i64 x0, .int .i64 y0, .int .i64 x1, .int .i64 y1]]) Tryd.func16 rfl rfl rfl fun a hf => ?_
  replace hf : Fr 76 [(0, .val (.agg #[.int .i64 x0, .int .i64 y0, .int .i64 x1, .int .i64 y1]))] a := hf
  have hM : MemOk [] w := MemOk.nil w
  have hk0 : Keep Nn w w := Keep.refl _ _
  have hgs := hG.size
  refine wp_seq_k (fun K1 hK1 => ?_)
  refine wp_region_lit ?_
  refine sr hf hM [3, 2, 1] [{ os := [.nw] }, { os := [.nw] }, {}] (env' := fun B1 => [(3, .val (.nilIface)), (2, .val (.pointer (some ⟨B1 + 1, 0, none⟩))), (1, .val (.pointer (some ⟨B1, 0, none⟩)))]) (M' := fun B1 => [⟨B1, 42, [.int .i64 x0, .int .i64 y0, .int .i64 x1, .int .i64 y1]⟩, ⟨B1 + 1, 44, [.int .i64 0, .int .i64 0, .int .i64 0]⟩]) (ob := fun B1 => []) (fun B => by as_aux_lemma => kernel_rfl) (fun B1 => An) ?_
  clear hf hM; intro a w1 B1 hf hM hB hk
  have hbB1 : w.heap.size ≤ B1 := by have := hk0.size; omega
  have hk0 := hk0.then hk (by intro i _ h; cases h)
  clear hk hB
  refine wpList_nil ?_
  refine hK1 _ _ ?_
  refine wp_seq_k (fun K2 hK2 => ?_)
  refine wp_region_lit ?_
  refine sr0 hf hM [9, 3, 2, 1] [{ os := [.ld 0 0, .ld 0 1, .ld 0 2, .ld 0 3] }] (env' := [(9, .val (.agg #[.int .i64 x0, .int .i64 y0, .int .i64 x1, .int .i64 y1])), (3, .val (.nilIface)), (2, .val (.pointer (some ⟨B1 + 1, 0, none⟩))), (1, .val (.pointer (some ⟨B1, 0, none⟩)))]) (ob := [Ad B1 0, Ad B1 1, Ad B1 2, Ad B1 3]) (fun B => by as_aux_lemma => kernel_rfl) rfl (Ac (ad _ _) (Ac (ad _ _) (Ac (ad _ _) (Ao (ad _ _))))) ?_
  clear hf; intro a hf
  refine sxcall hf rfl rfl rfl rfl (g := 34) (vs := [.agg #[.int .i64 x0, .int .i64 y0, .int .i64 x1, .int .i64 y1]]) (ob := []) (by as_aux_lemma => kernel_rfl) An enters34 (centre_no E x0 y0 x1 y1 w1 hn0 (hG.keep hk0 (fun _ h => h))) ?_
  clear hf; rintro _ w2 a ⟨rfl, hk⟩ hf
  have hM := hM.keepNn hk
  have hk0 := hk0.trans hk.nn
  clear hk
  refine sr hf hM [5, 4, 3, 2, 1] [{}, {}, {}, { os := [.nw] }, { os := [.st 2 0, .st 2 1] }, {}] (env' := fun B3 => [(5, .val (.iface 115 (.pointer (some (E 6))))), (4, .val (.pointer (some ⟨B3, 0, none⟩))), (3, .val (.nilIface)), (2, .val (.pointer (some ⟨B1 + 1, 0, none⟩))), (1, .val (.pointer (some ⟨B1, 0, none⟩)))]) (M' := fun B3 => [⟨B1, 42, [.int .i64 x0, .int .i64 y0, .int .i64 x1, .int .i64 y1]⟩, ⟨B1 + 1, 44, [.int .i64 0, .int .i64 0, .int .i64 0]⟩, ⟨B3, 81, [.int .i64 0, .int .i64 0]⟩]) (ob := fun B3 => [Ad B3 0, Ad B3 1]) (fun B => by as_aux_lemma => kernel_rfl) (fun B3 => (Ac (ad _ _) (Ao (ad _ _)))) ?_
  clear hf hM; intro a w3 B3 hf hM hB hk
  have hbB3 : w.heap.size ≤ B3 := by have := hk0.size; omega
  have hk0 := hk0.then hk (by intro i hi h; simp only [Is, Mem.names, List.map_cons, List.map_nil, List.mem_cons, List.not_mem_nil, or_false] at h; omega)
  clear hk hB
  refine wpList_nil ?_
  refine hK2 _ _ ?_
  refine wp_seq_k (fun K3 hK3 => ?_)
  refine wp_block ?_
  refine wp_seq_k (fun K4 hK4 => ?_)
  refine wp_region_lit ?_
  refine sr0 hf hM [13, 4, 3, 2, 1] [{}, {}, {}] (env' := [(13, .val (.bool true)), (4, .val (.pointer (some ⟨B3, 0, none⟩))), (3, .val (.nilIface)), (2, .val (.pointer (some ⟨B1 + 1, 0, none⟩))), (1, .val (.pointer (some ⟨B1, 0, none⟩)))]) (ob := []) (fun B => by as_aux_lemma => kernel_rfl) rfl An ?_
  clear hf; intro a hf
  refine wpList_nil ?_
  refine hK4 _ _ ?_
  refine sxcond hf (b := true) (by kernel_rfl) (fun _ => ?_) (fun h => by cases h)
  refine wp_seq_k (fun K5 hK5 => ?_)
  refine sxdraw [B1 + 1] [(0, true), (1, true), (2, false), (3, true)] (by kernel_rfl) (by kernel_rfl) (by as_aux_lemma => kernel_rfl) rfl (by as_aux_lemma => kernel_rfl) (by kernel_rfl) ?_
  replace hM := hM.drew; replace hk0 := hk0.drew
  have hkd := hk0
  have hC : Keep (Is [B1 + 1]) w3.drew w3.drew := Keep.refl _ _
  have hM0 := hM
  have hMr : MemOk [⟨B1, 42, [.int .i64 x0, .int .i64 y0, .int .i64 x1, .int .i64 y1]⟩, ⟨B3, 81, [.int .i64 0, .int .i64 0]⟩] w3.drew := hM.sub (.cons_cons _ (.cons _ (.cons_cons _ .slnil)))
  have hMs : MemOk [⟨B1 + 1, 44, [.int .i64 0, .int .i64 0, .int .i64 0]⟩] w3.drew := hM.sub (.cons _ (.cons_cons _ (.cons _ .slnil)))
  have hnd := hM.nd; simp only [Mem.names, List.map_cons, List.map_nil, List.nodup_cons, List.mem_cons, List.not_mem_nil, or_false, not_or, not_false_eq_true, List.nodup_nil, and_true] at hnd
  refine sc0 hf hMr (by intro k hk h; simp only [Is, Mem.names, List.map_cons, List.map_nil, List.mem_cons, List.not_mem_nil, or_false] at hk h; omega) hC [17, 16, 3, 2] [{ sp := true }, { os := [.ex (.iface 115 (.pointer (some (E 6))))] }] (env' := [(17, .val (.iface 115 (.pointer (some (E 6))))), (16, .val (.agg #[.int .i64 0, .int .i64 0, .int .i64 0])), (3, .val (.nilIface)), (2, .val (.pointer (some ⟨B1 + 1, 0, none⟩)))]) (ob := [w3.drew.cell? ⟨6, 0, none⟩ = some (.iface 115 (.pointer (some (E 6)))) ∧ ¬ (⟨6, 0, none⟩ : Addr).block ∈ ([B1 + 1] : List Nat)]) (by as_aux_lemma => kernel_rfl) rfl (Ao ⟨(hkd.cell (hG.cell 6 (by decide)) (fun h => h)), by first | (simp; done) | (simp; omega)⟩) ?_
  clear hf; intro a hf
  refine sc1 rfl hf hMs (by intro k hk; exact hk) hC [17, 3, 2] { os := [.st 0 0, .st 0 1, .st 0 2] } (env' := fun B5 => [(17, .val (.iface 115 (.pointer (some (E 6))))), (3, .val (.nilIface)), (2, .val (.pointer (some ⟨B1 + 1, 0, none⟩)))]) (M' := fun B5 => [⟨B1 + 1, 44, [.int .i64 0, .int .i64 0, .int .i64 0]⟩]) (ob := fun B5 => [Ad (B1 + 1) 0, Ad (B1 + 1) 1, Ad (B1 + 1) 2]) (fun B => by as_aux_lemma => kernel_rfl) (fun B5 => (Ac (ad _ _) (Ac (ad _ _) (Ao (ad _ _))))) ?_
  clear hf hMs; intro a w4 B5 hf hMs hB hk hC
  have hk0 := hk0.then hk (by intro i hi h; simp only [Is, Mem.names, List.map_cons, List.map_nil, List.mem_cons, List.not_mem_nil, or_false] at h; omega)
  clear hk
  clear hB
  refine sc0 hf hMr (by intro k hk h; simp only [Is, Mem.names, List.map_cons, List.map_nil, List.mem_cons, List.not_mem_nil, or_false] at hk h; omega) hC [3, 2] [{}] (env' := [(3, .val (.iface 115 (.pointer (some (E 6))))), (2, .val (.pointer (some ⟨B1 + 1, 0, none⟩)))]) (ob := []) (by as_aux_lemma => kernel_rfl) rfl An ?_
  clear hf; intro a hf
  have hM : MemOk [⟨B1, 42, [.int .i64 x0, .int .i64 y0, .int .i64 x1, .int .i64 y1]⟩, ⟨B1 + 1, 44, [.int .i64 0, .int .i64 0, .int .i64 0]⟩, ⟨B3, 81, [.int .i64 0, .int .i64 0]⟩] w4 := hM0.merge (hMr.keep hC (by intro k hk h; simp only [Is, Mem.names, List.map_cons, List.map_nil, List.mem_cons, List.not_mem_nil, or_false] at hk h; omega)) hMs rfl (by intro b hb; simp only [List.mem_cons, List.not_mem_nil, or_false] at hb ⊢; first | (rcases hb with rfl | rfl <;> simp) | (rcases hb with rfl | rfl | rfl <;> simp) | (rcases hb with rfl | rfl | rfl | rfl <;> simp) | (rcases hb with rfl | rfl | rfl | rfl | rfl <;> simp) | (rcases hb with rfl | rfl | rfl | rfl | rfl | rfl <;> simp))
  clear hMr hC hkd hMs hnd
  show K5 _ _
  refine hK5 _ _ ?_
  refine wp_ret ?_
  refine sxret (fn := Tryd.f16) hf hM [.ld 1 0, .ld 1 1, .ld 1 2] (l := [.agg #[.int .i64 0, .int .i64 0, .int .i64 0], .iface 115 (.pointer (some (E 6)))]) (M' := [⟨B1, 42, [.int .i64 x0, .int .i64 y0, .int .i64 x1, .int .i64 y1]⟩, ⟨B1 + 1, 44, [.int .i64 0, .int .i64 0, .int .i64 0]⟩, ⟨B3, 81, [.int .i64 0, .int .i64 0]⟩]) (d' := false) (ob := [Ad (B1 + 1) 0, Ad (B1 + 1) 1, Ad (B1 + 1) 2]) (by kernel_rfl) (fun B => ⟨B, by as_aux_lemma => kernel_rfl⟩) rfl (Ac (ad _ _) (Ac (ad _ _) (Ao (ad _ _)))) ?_
  show (.tuple #[.agg #[.int .i64 0, .int .i64 0, .int .i64 0], .iface 115 (.pointer (some (E 6)))] : Value) = .tuple #[.agg #[.int .i64 0, .int .i64 0, .int .i64 0], .iface 115 (.pointer (some (E 6)))] ∧ Keep Nn w w4
  exact ⟨rfl, hk0⟩

set_option maxRecDepth 10000 in
theorem of_range (E : Nat → Addr) (x0 y0 x1 y1 : Int) (w : World) (hn0 : (boxRight x0 y0 x1 y1) = true) (hn1 : (inWorld x0 y0 x1 y1) = false) (hG : Errs 10 w 115 E) :
    Calls Tryd.prog 16 #[.agg #[.int .i64 x0, .int .i64 y0, .int .i64 x1, .int .i64 y1]] w (Ret fun v w' => v = .tuple #[.agg #[.int .i64 0, .int .i64 0, .int .i64 0], .iface 115 (.pointer (some (E 0)))] ∧ Keep Nn w w') := by
  refine sxenter (n := 76) (args := [.agg #[.int .i64 x0, .int .i64 y0, .int .i64 x1, .int .i64 y1]]) Tryd.func16 rfl rfl rfl fun a hf => ?_
  replace hf : Fr 76 [(0, .val (.agg #[.int .i64 x0, .int .i64 y0, .int .i64 x1, .int .i64 y1]))] a := hf
  have hM : MemOk [] w := MemOk.nil w
  have hk0 : Keep Nn w w := Keep.refl _ _
  have hgs := hG.size
  have hin : boxInside x0 y0 x1 y1 (-2097152) (-2097152) 2097152 2097152 = false := by rw [inside_world hn0]; exact hn1
  refine wp_seq_k (fun K1 hK1 => ?_)
  refine wp_region_lit ?_
  refine sr hf hM [3, 2, 1] [{ os := [.nw] }, { os := [.nw] }, {}] (env' := fun B1 => [(3, .val (.nilIface)), (2, .val (.pointer (some ⟨B1 + 1, 0, none⟩))), (1, .val (.pointer (some ⟨B1, 0, none⟩)))]) (M' := fun B1 => [⟨B1, 42, [.int .i64 x0, .int .i64 y0, .int .i64 x1, .int .i64 y1]⟩, ⟨B1 + 1, 44, [.int .i64 0, .int .i64 0, .int .i64 0]⟩]) (ob := fun B1 => []) (fun B => by as_aux_lemma => kernel_rfl) (fun B1 => An) ?_
  clear hf hM; intro a w1 B1 hf hM hB hk
  have hbB1 : w.heap.size ≤ B1 := by have := hk0.size; omega
  have hk0 := hk0.then hk (by intro i _ h; cases h)
  clear hk hB
  refine wpList_nil ?_
  refine hK1 _ _ ?_
  refine wp_seq_k (fun K2 hK2 => ?_)
  refine wp_region_lit ?_
  refine sr0 hf hM [9, 3, 2, 1] [{ os := [.ld 0 0, .ld 0 1, .ld 0 2, .ld 0 3] }] (env' := [(9, .val (.agg #[.int .i64 x0, .int .i64 y0, .int .i64 x1, .int .i64 y1])), (3, .val (.nilIface)), (2, .val (.pointer (some ⟨B1 + 1, 0, none⟩))), (1, .val (.pointer (some ⟨B1, 0, none⟩)))]) (ob := [Ad B1 0, Ad B1 1, Ad B1 2, Ad B1 3]) (fun B => by as_aux_lemma => kernel_rfl) rfl (Ac (ad _ _) (Ac (ad _ _) (Ac (ad _ _) (Ao (ad _ _))))) ?_
  clear hf; intro a hf
  refine sxcall hf rfl rfl rfl rfl (g := 34) (vs := [.agg #[.int .i64 x0, .int .i64 y0, .int .i64 x1, .int .i64 y1]]) (ob := []) (by as_aux_lemma => kernel_rfl) An enters34 (centre_ok E x0 y0 x1 y1 w1 hn0 ) ?_
  clear hf; rintro _ w2 a ⟨rfl, hk⟩ hf
  have hM := hM.keepNn hk
  have hk0 := hk0.trans hk.nn
  clear hk
  refine sr hf hM [5, 4, 3, 2, 1] [{}, {}, {}, { os := [.nw] }, { os := [.st 2 0, .st 2 1] }, {}] (env' := fun B3 => [(5, .val (.nilIface)), (4, .val (.pointer (some ⟨B3, 0, none⟩))), (3, .val (.nilIface)), (2, .val (.pointer (some ⟨B1 + 1, 0, none⟩))), (1, .val (.pointer (some ⟨B1, 0, none⟩)))]) (M' := fun B3 => [⟨B1, 42, [.int .i64 x0, .int .i64 y0, .int .i64 x1, .int .i64 y1]⟩, ⟨B1 + 1, 44, [.int .i64 0, .int .i64 0, .int .i64 0]⟩, ⟨B3, 81, [.int .i64 ((x0 + x1) / 2), .int .i64 ((y0 + y1) / 2)]⟩]) (ob := fun B3 => [Ad B3 0, Ad B3 1]) (fun B => by as_aux_lemma => kernel_rfl) (fun B3 => (Ac (ad _ _) (Ao (ad _ _)))) ?_
  clear hf hM; intro a w3 B3 hf hM hB hk
  have hbB3 : w.heap.size ≤ B3 := by have := hk0.size; omega
  have hk0 := hk0.then hk (by intro i hi h; simp only [Is, Mem.names, List.map_cons, List.map_nil, List.mem_cons, List.not_mem_nil, or_false] at h; omega)
  clear hk hB
  refine wpList_nil ?_
  refine hK2 _ _ ?_
  refine wp_seq_k (fun K3 hK3 => ?_)
  refine wp_block ?_
  refine wp_seq_k (fun K4 hK4 => ?_)
  refine wp_region_lit ?_
  refine sr0 hf hM [13, 4, 3, 2, 1] [{}, {}, {}] (env' := [(13, .val (.bool false)), (4, .val (.pointer (some ⟨B3, 0, none⟩))), (3, .val (.nilIface)), (2, .val (.pointer (some ⟨B1 + 1, 0, none⟩))), (1, .val (.pointer (some ⟨B1, 0, none⟩)))]) (ob := []) (fun B => by as_aux_lemma => kernel_rfl) rfl An ?_
  clear hf; intro a hf
  refine wpList_nil ?_
  refine hK4 _ _ ?_
  refine sxcond hf (b := false) (by kernel_rfl) (fun h => by cases h) (fun _ => ?_)
  refine wp_seq_k (fun K5 hK5 => ?_)
  refine sxdraw [] [(0, true), (1, false), (2, false), (3, true), (4, true)] (by kernel_rfl) (by kernel_rfl) (by as_aux_lemma => kernel_rfl) rfl (by as_aux_lemma => kernel_rfl) (by kernel_rfl) ?_
  replace hM := hM.drew; replace hk0 := hk0.drew
  have hkd := hk0
  have hC : Keep (Is []) w3.drew w3.drew := Keep.refl _ _
  have hM0 := hM
  have hMr := hM
  refine sc0 hf hMr (by intro k _ h; cases h) hC [19, 4, 3, 2, 1] [{ os := [.ld 0 0, .ld 0 1, .ld 0 2, .ld 0 3] }] (env' := [(19, .val (.agg #[.int .i64 x0, .int .i64 y0, .int .i64 x1, .int .i64 y1])), (4, .val (.pointer (some ⟨B3, 0, none⟩))), (3, .val (.nilIface)), (2, .val (.pointer (some ⟨B1 + 1, 0, none⟩))), (1, .val (.pointer (some ⟨B1, 0, none⟩)))]) (ob := [Ad B1 0, Ad B1 1, Ad B1 2, Ad B1 3]) (by as_aux_lemma => kernel_rfl) rfl (Ac (ad _ _) (Ac (ad _ _) (Ac (ad _ _) (Ao (ad _ _))))) ?_
  clear hf; intro a hf
  have hM := MemOk.nil w3.drew
  refine sccall rfl hf rfl rfl rfl rfl (g := 36) (vs := []) (ob := []) (by as_aux_lemma => kernel_rfl) An enters36 (world_any  w3.drew  ) (by rintro _ _ ⟨rfl, hk⟩; exact hC.trans hk.nn) ?_
  clear hf; rintro _ w4 a ⟨rfl, hk⟩ hf
  have hM := hM.keepNn hk
  have hC := hC.trans hk.nn
  have hk0 := hk0.trans hk.nn
  clear hk
  have hM := MemOk.nil w4
  refine sccall rfl hf rfl rfl rfl rfl (g := 35) (vs := [.agg #[.int .i64 x0, .int .i64 y0, .int .i64 x1, .int .i64 y1], .agg #[.int .i64 (-2097152), .int .i64 (-2097152), .int .i64 2097152, .int .i64 2097152]]) (ob := []) (by as_aux_lemma => kernel_rfl) An enters35 (inside_any x0 y0 x1 y1 (-2097152) (-2097152) 2097152 2097152 w4  ) (by rintro _ _ ⟨rfl, hk⟩; exact hC.trans hk.nn) ?_
  clear hf; rintro _ w5 a ⟨rfl, hk⟩ hf
  have hM := hM.keepNn hk
  have hC := hC.trans hk.nn
  have hk0 := hk0.trans hk.nn
  clear hk
  refine sc0 hf hMr (by intro k _ h; cases h) hC [18, 4, 3, 2, 1] [{}, {}] (env' := [(18, .val (.bool (!(boxInside x0 y0 x1 y1 (-2097152) (-2097152) 2097152 2097152)))), (4, .val (.pointer (some ⟨B3, 0, none⟩))), (3, .val (.nilIface)), (2, .val (.pointer (some ⟨B1 + 1, 0, none⟩))), (1, .val (.pointer (some ⟨B1, 0, none⟩)))]) (ob := []) (by as_aux_lemma => kernel_rfl) rfl An ?_
  clear hf; intro a hf
  have hM := hMr.keep hC (by intro _ _ h; cases h)
  clear hMr hC hkd
  show K5 _ _
  refine hK5 _ _ ?_
  refine sxcond hf (b := !(boxInside x0 y0 x1 y1 (-2097152) (-2097152) 2097152 2097152)) (by kernel_rfl) (fun _ => ?_) (fun h => absurd (h.symm.trans (by simp [hin] : (!(boxInside x0 y0 x1 y1 (-2097152) (-2097152) 2097152 2097152) : Bool) = true)) (by simp))
  refine wp_seq_k (fun K6 hK6 => ?_)
  refine sxdraw [B1 + 1] [(0, true), (1, true), (2, false), (3, true)] (by kernel_rfl) (by kernel_rfl) (by as_aux_lemma => kernel_rfl) rfl (by as_aux_lemma => kernel_rfl) (by kernel_rfl) ?_
  replace hM := hM.drew; replace hk0 := hk0.drew
  have hkd := hk0
  have hC : Keep (Is [B1 + 1]) w5.drew w5.drew := Keep.refl _ _
  have hM0 := hM
  have hMr : MemOk [⟨B1, 42, [.int .i64 x0, .int .i64 y0, .int .i64 x1, .int .i64 y1]⟩, ⟨B3, 81, [.int .i64 ((x0 + x1) / 2), .int .i64 ((y0 + y1) / 2)]⟩] w5.drew := hM.sub (.cons_cons _ (.cons _ (.cons_cons _ .slnil)))
  have hMs : MemOk [⟨B1 + 1, 44, [.int .i64 0, .int .i64 0, .int .i64 0]⟩] w5.drew := hM.sub (.cons _ (.cons_cons _ (.cons _ .slnil)))
  have hnd := hM.nd; simp only [Mem.names, List.map_cons, List.map_nil, List.nodup_cons, List.mem_cons, List.not_mem_nil, or_false, not_or, not_false_eq_true, List.nodup_nil, and_true] at hnd
  refine sc0 hf hMr (by intro k hk h; simp only [Is, Mem.names, List.map_cons, List.map_nil, List.mem_cons, List.not_mem_nil, or_false] at hk h; omega) hC [24, 23, 3, 2] [{ sp := true }, { os := [.ex (.iface 115 (.pointer (some (E 0))))] }] (env' := [(24, .val (.iface 115 (.pointer (some (E 0))))), (23, .val (.agg #[.int .i64 0, .int .i64 0, .int .i64 0])), (3, .val (.nilIface)), (2, .val (.pointer (some ⟨B1 + 1, 0, none⟩)))]) (ob := [w5.drew.cell? ⟨0, 0, none⟩ = some (.iface 115 (.pointer (some (E 0)))) ∧ ¬ (⟨0, 0, none⟩ : Addr).block ∈ ([B1 + 1] : List Nat)]) (by as_aux_lemma => kernel_rfl) rfl (Ao ⟨(hkd.cell (hG.cell 0 (by decide)) (fun h => h)), by first | (simp; done) | (simp; omega)⟩) ?_
  clear hf; intro a hf
  refine sc1 rfl hf hMs (by intro k hk; exact hk) hC [24, 3, 2] { os := [.st 0 0, .st 0 1, .st 0 2] } (env' := fun B5 => [(24, .val (.iface 115 (.pointer (some (E 0))))), (3, .val (.nilIface)), (2, .val (.pointer (some ⟨B1 + 1, 0, none⟩)))]) (M' := fun B5 => [⟨B1 + 1, 44, [.int .i64 0, .int .i64 0, .int .i64 0]⟩]) (ob := fun B5 => [Ad (B1 + 1) 0, Ad (B1 + 1) 1, Ad (B1 + 1) 2]) (fun B => by as_aux_lemma => kernel_rfl) (fun B5 => (Ac (ad _ _) (Ac (ad _ _) (Ao (ad _ _))))) ?_
  clear hf hMs; intro a w6 B5 hf hMs hB hk hC
  have hk0 := hk0.then hk (by intro i hi h; simp only [Is, Mem.names, List.map_cons, List.map_nil, List.mem_cons, List.not_mem_nil, or_false] at h; omega)
  clear hk
  clear hB
  refine sc0 hf hMr (by intro k hk h; simp only [Is, Mem.names, List.map_cons, List.map_nil, List.mem_cons, List.not_mem_nil, or_false] at hk h; omega) hC [3, 2] [{}] (env' := [(3, .val (.iface 115 (.pointer (some (E 0))))), (2, .val (.pointer (some ⟨B1 + 1, 0, none⟩)))]) (ob := []) (by as_aux_lemma => kernel_rfl) rfl An ?_
  clear hf; intro a hf
  have hM : MemOk [⟨B1, 42, [.int .i64 x0, .int .i64 y0, .int .i64 x1, .int .i64 y1]⟩, ⟨B1 + 1, 44, [.int .i64 0, .int .i64 0, .int .i64 0]⟩, ⟨B3, 81, [.int .i64 ((x0 + x1) / 2), .int .i64 ((y0 + y1) / 2)]⟩] w6 := hM0.merge (hMr.keep hC (by intro k hk h; simp only [Is, Mem.names, List.map_cons, List.map_nil, List.mem_cons, List.not_mem_nil, or_false] at hk h; omega)) hMs rfl (by intro b hb; simp only [List.mem_cons, List.not_mem_nil, or_false] at hb ⊢; first | (rcases hb with rfl | rfl <;> simp) | (rcases hb with rfl | rfl | rfl <;> simp) | (rcases hb with rfl | rfl | rfl | rfl <;> simp) | (rcases hb with rfl | rfl | rfl | rfl | rfl <;> simp) | (rcases hb with rfl | rfl | rfl | rfl | rfl | rfl <;> simp))
  clear hMr hC hkd hMs hnd
  show K6 _ _
  refine hK6 _ _ ?_
  refine wp_ret ?_
  refine sxret (fn := Tryd.f16) hf hM [.ld 1 0, .ld 1 1, .ld 1 2] (l := [.agg #[.int .i64 0, .int .i64 0, .int .i64 0], .iface 115 (.pointer (some (E 0)))]) (M' := [⟨B1, 42, [.int .i64 x0, .int .i64 y0, .int .i64 x1, .int .i64 y1]⟩, ⟨B1 + 1, 44, [.int .i64 0, .int .i64 0, .int .i64 0]⟩, ⟨B3, 81, [.int .i64 ((x0 + x1) / 2), .int .i64 ((y0 + y1) / 2)]⟩]) (d' := false) (ob := [Ad (B1 + 1) 0, Ad (B1 + 1) 1, Ad (B1 + 1) 2]) (by kernel_rfl) (fun B => ⟨B, by as_aux_lemma => kernel_rfl⟩) rfl (Ac (ad _ _) (Ac (ad _ _) (Ao (ad _ _)))) ?_
  show (.tuple #[.agg #[.int .i64 0, .int .i64 0, .int .i64 0], .iface 115 (.pointer (some (E 0)))] : Value) = .tuple #[.agg #[.int .i64 0, .int .i64 0, .int .i64 0], .iface 115 (.pointer (some (E 0)))] ∧ Keep Nn w w6
  exact ⟨rfl, hk0⟩

set_option maxRecDepth 10000 in
theorem of_ok (E : Nat → Addr) (x0 y0 x1 y1 : Int) (w : World) (hn0 : (boxRight x0 y0 x1 y1) = true) (hn1 : (inWorld x0 y0 x1 y1) = true) (hG : Errs 10 w 115 E) :
    Calls Tryd.prog 16 #[.agg #[.int .i64 x0, .int .i64 y0, .int .i64 x1, .int .i64 y1]] w (Ret fun v w' => v = .tuple #[.agg #[.int .i64 (depthOf (bsize x0 y0 x1 y1)), .int .i64 (colOf ((x0 + x1) / 2) (depthOf (bsize x0 y0 x1 y1))), .int .i64 (colOf ((y0 + y1) / 2) (depthOf (bsize x0 y0 x1 y1)))], .nilIface] ∧ Keep Nn w w') := by
  refine sxenter (n := 76) (args := [.agg #[.int .i64 x0, .int .i64 y0, .int .i64 x1, .int .i64 y1]]) Tryd.func16 rfl rfl rfl fun a hf => ?_
  replace hf : Fr 76 [(0, .val (.agg #[.int .i64 x0, .int .i64 y0, .int .i64 x1, .int .i64 y1]))] a := hf
  have hM : MemOk [] w := MemOk.nil w
  have hk0 : Keep Nn w w := Keep.refl _ _
  have hgs := hG.size
  have hin : boxInside x0 y0 x1 y1 (-2097152) (-2097152) 2097152 2097152 = true := by rw [inside_world hn0]; exact hn1
  have hb := boxRight_iff.1 hn0
  have hw := inWorld_iff.1 hn1
  have hm : bsize x0 y0 x1 y1 ≤ 4194304 := by unfold bsize; split <;> omega
  have hcx := half_bd (a := x0) (b := x1) (m := 2097152) (by omega)
  have hcy := half_bd (a := y0) (b := y1) (m := 2097152) (by omega)
  refine wp_seq_k (fun K1 hK1 => ?_)
  refine wp_region_lit ?_
  refine sr hf hM [3, 2, 1] [{ os := [.nw] }, { os := [.nw] }, {}] (env' := fun B1 => [(3, .val (.nilIface)), (2, .val (.pointer (some ⟨B1 + 1, 0, none⟩))), (1, .val (.pointer (some ⟨B1, 0, none⟩)))]) (M' := fun B1 => [⟨B1, 42, [.int .i64 x0, .int .i64 y0, .int .i64 x1, .int .i64 y1]⟩, ⟨B1 + 1, 44, [.int .i64 0, .int .i64 0, .int .i64 0]⟩]) (ob := fun B1 => []) (fun B => by as_aux_lemma => kernel_rfl) (fun B1 => An) ?_
  clear hf hM; intro a w1 B1 hf hM hB hk
  have hbB1 : w.heap.size ≤ B1 := by have := hk0.size; omega
  have hk0 := hk0.then hk (by intro i _ h; cases h)
  clear hk hB
  refine wpList_nil ?_
  refine hK1 _ _ ?_
  refine wp_seq_k (fun K2 hK2 => ?_)
  refine wp_region_lit ?_
  refine sr0 hf hM [9, 3, 2, 1] [{ os := [.ld 0 0, .ld 0 1, .ld 0 2, .ld 0 3] }] (env' := [(9, .val (.agg #[.int .i64 x0, .int .i64 y0, .int .i64 x1, .int .i64 y1])), (3, .val (.nilIface)), (2, .val (.pointer (some ⟨B1 + 1, 0, none⟩))), (1, .val (.pointer (some ⟨B1, 0, none⟩)))]) (ob := [Ad B1 0, Ad B1 1, Ad B1 2, Ad B1 3]) (fun B => by as_aux_lemma => kernel_rfl) rfl (Ac (ad _ _) (Ac (ad _ _) (Ac (ad _ _) (Ao (ad _ _))))) ?_
  clear hf; intro a hf
  refine sxcall hf rfl rfl rfl rfl (g := 34) (vs := [.agg #[.int .i64 x0, .int .i64 y0, .int .i64 x1, .int .i64 y1]]) (ob := []) (by as_aux_lemma => kernel_rfl) An enters34 (centre_ok E x0 y0 x1 y1 w1 hn0 ) ?_
  clear hf; rintro _ w2 a ⟨rfl, hk⟩ hf
  have hM := hM.keepNn hk
  have hk0 := hk0.trans hk.nn
  clear hk
  refine sr hf hM [5, 4, 3, 2, 1] [{}, {}, {}, { os := [.nw] }, { os := [.st 2 0, .st 2 1] }, {}] (env' := fun B3 => [(5, .val (.nilIface)), (4, .val (.pointer (some ⟨B3, 0, none⟩))), (3, .val (.nilIface)), (2, .val (.pointer (some ⟨B1 + 1, 0, none⟩))), (1, .val (.pointer (some ⟨B1, 0, none⟩)))]) (M' := fun B3 => [⟨B1, 42, [.int .i64 x0, .int .i64 y0, .int .i64 x1, .int .i64 y1]⟩, ⟨B1 + 1, 44, [.int .i64 0, .int .i64 0, .int .i64 0]⟩, ⟨B3, 81, [.int .i64 ((x0 + x1) / 2), .int .i64 ((y0 + y1) / 2)]⟩]) (ob := fun B3 => [Ad B3 0, Ad B3 1]) (fun B => by as_aux_lemma => kernel_rfl) (fun B3 => (Ac (ad _ _) (Ao (ad _ _)))) ?_
  clear hf hM; intro a w3 B3 hf hM hB hk
  have hbB3 : w.heap.size ≤ B3 := by have := hk0.size; omega
  have hk0 := hk0.then hk (by intro i hi h; simp only [Is, Mem.names, List.map_cons, List.map_nil, List.mem_cons, List.not_mem_nil, or_false] at h; omega)
  clear hk hB
  refine wpList_nil ?_
  refine hK2 _ _ ?_
  refine wp_seq_k (fun K3 hK3 => ?_)
  refine wp_block ?_
  refine wp_seq_k (fun K4 hK4 => ?_)
  refine wp_region_lit ?_
  refine sr0 hf hM [13, 4, 3, 2, 1] [{}, {}, {}] (env' := [(13, .val (.bool false)), (4, .val (.pointer (some ⟨B3, 0, none⟩))), (3, .val (.nilIface)), (2, .val (.pointer (some ⟨B1 + 1, 0, none⟩))), (1, .val (.pointer (some ⟨B1, 0, none⟩)))]) (ob := []) (fun B => by as_aux_lemma => kernel_rfl) rfl An ?_
  clear hf; intro a hf
  refine wpList_nil ?_
  refine hK4 _ _ ?_
  refine sxcond hf (b := false) (by kernel_rfl) (fun h => by cases h) (fun _ => ?_)
  refine wp_seq_k (fun K5 hK5 => ?_)
  refine sxdraw [] [(0, true), (1, false), (2, false), (3, true), (4, true)] (by kernel_rfl) (by kernel_rfl) (by as_aux_lemma => kernel_rfl) rfl (by as_aux_lemma => kernel_rfl) (by kernel_rfl) ?_
  replace hM := hM.drew; replace hk0 := hk0.drew
  have hkd := hk0
  have hC : Keep (Is []) w3.drew w3.drew := Keep.refl _ _
  have hM0 := hM
  have hMr := hM
  refine sc0 hf hMr (by intro k _ h; cases h) hC [19, 4, 3, 2, 1] [{ os := [.ld 0 0, .ld 0 1, .ld 0 2, .ld 0 3] }] (env' := [(19, .val (.agg #[.int .i64 x0, .int .i64 y0, .int .i64 x1, .int .i64 y1])), (4, .val (.pointer (some ⟨B3, 0, none⟩))), (3, .val (.nilIface)), (2, .val (.pointer (some ⟨B1 + 1, 0, none⟩))), (1, .val (.pointer (some ⟨B1, 0, none⟩)))]) (ob := [Ad B1 0, Ad B1 1, Ad B1 2, Ad B1 3]) (by as_aux_lemma => kernel_rfl) rfl (Ac (ad _ _) (Ac (ad _ _) (Ac (ad _ _) (Ao (ad _ _))))) ?_
  clear hf; intro a hf
  have hM := MemOk.nil w3.drew
  refine sccall rfl hf rfl rfl rfl rfl (g := 36) (vs := []) (ob := []) (by as_aux_lemma => kernel_rfl) An enters36 (world_any  w3.drew  ) (by rintro _ _ ⟨rfl, hk⟩; exact hC.trans hk.nn) ?_
  clear hf; rintro _ w4 a ⟨rfl, hk⟩ hf
  have hM := hM.keepNn hk
  have hC := hC.trans hk.nn
  have hk0 := hk0.trans hk.nn
  clear hk
  have hM := MemOk.nil w4
  refine sccall rfl hf rfl rfl rfl rfl (g := 35) (vs := [.agg #[.int .i64 x0, .int .i64 y0, .int .i64 x1, .int .i64 y1], .agg #[.int .i64 (-2097152), .int .i64 (-2097152), .int .i64 2097152, .int .i64 2097152]]) (ob := []) (by as_aux_lemma => kernel_rfl) An enters35 (inside_any x0 y0 x1 y1 (-2097152) (-2097152) 2097152 2097152 w4  ) (by rintro _ _ ⟨rfl, hk⟩; exact hC.trans hk.nn) ?_
  clear hf; rintro _ w5 a ⟨rfl, hk⟩ hf
  have hM := hM.keepNn hk
  have hC := hC.trans hk.nn
  have hk0 := hk0.trans hk.nn
  clear hk
  refine sc0 hf hMr (by intro k _ h; cases h) hC [18, 4, 3, 2, 1] [{}, {}] (env' := [(18, .val (.bool (!(boxInside x0 y0 x1 y1 (-2097152) (-2097152) 2097152 2097152)))), (4, .val (.pointer (some ⟨B3, 0, none⟩))), (3, .val (.nilIface)), (2, .val (.pointer (some ⟨B1 + 1, 0, none⟩))), (1, .val (.pointer (some ⟨B1, 0, none⟩)))]) (ob := []) (by as_aux_lemma => kernel_rfl) rfl An ?_
  clear hf; intro a hf
  have hM := hMr.keep hC (by intro _ _ h; cases h)
  clear hMr hC hkd
  show K5 _ _
  refine hK5 _ _ ?_
  refine sxcond hf (b := !(boxInside x0 y0 x1 y1 (-2097152) (-2097152) 2097152 2097152)) (by kernel_rfl) (fun h => absurd (h.symm.trans (by simp [hin] : (!(boxInside x0 y0 x1 y1 (-2097152) (-2097152) 2097152 2097152) : Bool) = false)) (by simp)) (fun _ => ?_)
  refine wp_skip ?_
  refine hK3 _ _ ?_
  refine wp_seq_k (fun K6 hK6 => ?_)
  refine wp_region_lit ?_
  refine sr hf hM [6, 4, 2, 1] [{ sp := true }, { os := [.nw] }, { os := [.st 3 0, .st 3 1, .st 3 2] }] (env' := fun B5 => [(6, .val (.pointer (some ⟨B5, 0, none⟩))), (4, .val (.pointer (some ⟨B3, 0, none⟩))), (2, .val (.pointer (some ⟨B1 + 1, 0, none⟩))), (1, .val (.pointer (some ⟨B1, 0, none⟩)))]) (M' := fun B5 => [⟨B1, 42, [.int .i64 x0, .int .i64 y0, .int .i64 x1, .int .i64 y1]⟩, ⟨B1 + 1, 44, [.int .i64 0, .int .i64 0, .int .i64 0]⟩, ⟨B3, 81, [.int .i64 ((x0 + x1) / 2), .int .i64 ((y0 + y1) / 2)]⟩, ⟨B5, 44, [.int .i64 0, .int .i64 0, .int .i64 0]⟩]) (ob := fun B5 => [Ad B5 0, Ad B5 1, Ad B5 2]) (fun B => by as_aux_lemma => kernel_rfl) (fun B5 => (Ac (ad _ _) (Ac (ad _ _) (Ao (ad _ _))))) ?_
  clear hf hM; intro a w6 B5 hf hM hB hk
  have hbB5 : w.heap.size ≤ B5 := by have := hk0.size; omega
  have hk0 := hk0.then hk (by intro i hi h; simp only [Is, Mem.names, List.map_cons, List.map_nil, List.mem_cons, List.not_mem_nil, or_false] at h; omega)
  clear hk hB
  refine wpList_nil ?_
  refine hK6 _ _ ?_
  refine wp_seq_k (fun K7 hK7 => ?_)
  refine wp_block ?_
  have hf := hf.prune [1, 2, 4, 6]
  replace hf : Fr 76 [(1, .val (.pointer (some ⟨B1, 0, none⟩))), (2, .val (.pointer (some ⟨B1 + 1, 0, none⟩))), (4, .val (.pointer (some ⟨B3, 0, none⟩))), (6, .val (.pointer (some ⟨B5, 0, none⟩)))] a := hf
  refine sxloop (fun m a w1 => ∃ (d : Int), m = 8 - d.toNat ∧ Fr 76 [(1, .val (.pointer (some ⟨B1, 0, none⟩))), (2, .val (.pointer (some ⟨B1 + 1, 0, none⟩))), (4, .val (.pointer (some ⟨B3, 0, none⟩))), (6, .val (.pointer (some ⟨B5, 0, none⟩)))] a ∧ MemOk [⟨B1, 42, [.int .i64 x0, .int .i64 y0, .int .i64 x1, .int .i64 y1]⟩, ⟨B1 + 1, 44, [.int .i64 0, .int .i64 0, .int .i64 0]⟩, ⟨B3, 81, [.int .i64 ((x0 + x1) / 2), .int .i64 ((y0 + y1) / 2)]⟩, ⟨B5, 44, [.int .i64 d, .int .i64 0, .int .i64 0]⟩] w1 ∧ Keep Nn w w1 ∧ (0 ≤ d ∧ d ≤ depthOf (bsize x0 y0 x1 y1))) _ ⟨0, rfl, hf.conv (Ac rfl (Ac rfl (Ac rfl (Ao rfl)))), hM, hk0, ⟨by omega, (depthOf_bd _).1⟩⟩ ?_
  clear hf hM hk0
  rintro _ a w7 ⟨d, rfl, hf, hM, hk0, hd0⟩ L1 hL1
  have hd8 := depthOf_bd (bsize x0 y0 x1 y1)
  have hp := pow_bd (d := d) (by omega)
  have hs := side_bd (d := d) (by omega)
  refine wp_seq_k (fun K8 hK8 => ?_)
  refine wp_seq_k (fun K9 hK9 => ?_)
  refine sxdraw [] [(0, true), (1, true), (2, true), (3, true), (4, true), (5, true), (6, true), (8, true), (9, true), (10, true), (11, true), (12, true), (13, true), (14, true), (15, true), (16, true), (17, true), (18, true), (7, false), (19, true), (20, true)] (by kernel_rfl) (by kernel_rfl) (by as_aux_lemma => kernel_rfl) rfl (by as_aux_lemma => kernel_rfl) (by kernel_rfl) ?_
  replace hM := hM.drew; replace hk0 := hk0.drew
  have hkd := hk0
  have hC : Keep (Is []) w7.drew w7.drew := Keep.refl _ _
  have hM0 := hM
  have hMr := hM
  refine sc0 hf hMr (by intro k _ h; cases h) hC [29, 28, 27, 26, 1, 2, 4, 6] [{}, { os := [.ld 3 0] }, {}, {}] (env' := [(29, .val (.bool (decide ((d : Int) < 8)))), (28, .val (.bool (decide ((d : Int) < 8)))), (27, .val (.int .i64 d)), (26, .val (.pointer (some ⟨B5, 0, none⟩))), (1, .val (.pointer (some ⟨B1, 0, none⟩))), (2, .val (.pointer (some ⟨B1 + 1, 0, none⟩))), (4, .val (.pointer (some ⟨B3, 0, none⟩))), (6, .val (.pointer (some ⟨B5, 0, none⟩)))]) (ob := [Ad B5 0]) (by as_aux_lemma => kernel_rfl) rfl (Ao (ad _ _)) ?_
  clear hf; intro a hf
  rcases Bool.eq_false_or_eq_true (decide ((d : Int) < 8)) with hg1 | hg1
  · have hg1r := hg1
    have hf := hf.prune [29, 28, 27, 26, 1, 2, 4, 6]
    replace hf : Fr 76 [(29, .val (.bool (decide ((d : Int) < 8)))), (28, .val (.bool (decide ((d : Int) < 8)))), (27, .val (.int .i64 d)), (26, .val (.pointer (some ⟨B5, 0, none⟩))), (1, .val (.pointer (some ⟨B1, 0, none⟩))), (2, .val (.pointer (some ⟨B1 + 1, 0, none⟩))), (4, .val (.pointer (some ⟨B3, 0, none⟩))), (6, .val (.pointer (some ⟨B5, 0, none⟩)))] a := hf
    replace hf := hf.conv (env' := [(29, .val (.bool true)), (28, .val (.bool true)), (27, .val (.int .i64 d)), (26, .val (.pointer (some ⟨B5, 0, none⟩))), (1, .val (.pointer (some ⟨B1, 0, none⟩))), (2, .val (.pointer (some ⟨B1 + 1, 0, none⟩))), (4, .val (.pointer (some ⟨B3, 0, none⟩))), (6, .val (.pointer (some ⟨B5, 0, none⟩)))]) (Ac (congrArg Value.bool hg1r) (Ac (congrArg Value.bool hg1r) (Ac rfl (Ac rfl (Ac rfl (Ac rfl (Ac rfl (Ao rfl))))))))
    try simp only [Bool.or_eq_true, Bool.and_eq_true, Bool.not_eq_true', Bool.not_eq_false', Bool.or_eq_false_iff, Bool.and_eq_false_iff, decide_eq_true_eq, decide_eq_false_iff_not, beq_iff_eq, bne_iff_ne, beq_eq_false_iff_ne, bne_eq_false_iff_eq, Bool.and_true, Bool.true_and, ne_eq] at hg1
    refine sc0 hf hMr (by intro k _ h; cases h) hC [44, 43, 42, 41, 40, 39, 38, 37, 36, 35, 34, 32, 31, 30, 29, 28, 27, 26, 1, 2, 4, 6] [{}, { os := [.ld 3 0] }, { hint := some (.int .i64 (d + 1)) }, {}, { os := [.ld 0 2] }, {}, { os := [.ld 0 0] }, { hint := some (.int .i64 (x1 - x0)) }, {}, { os := [.ld 0 3] }, {}, { os := [.ld 0 1] }, { hint := some (.int .i64 (y1 - y0)) }, {}] (env' := [(44, .val (.int .i64 (if x1 - x0 < y1 - y0 then y1 - y0 else x1 - x0))), (43, .val (.int .i64 (y1 - y0))), (42, .val (.int .i64 y0)), (41, .val (.pointer (some ⟨B1, 1, none⟩))), (40, .val (.int .i64 y1)), (39, .val (.pointer (some ⟨B1, 3, none⟩))), (38, .val (.int .i64 (x1 - x0))), (37, .val (.int .i64 x0)), (36, .val (.pointer (some ⟨B1, 0, none⟩))), (35, .val (.int .i64 x1)), (34, .val (.pointer (some ⟨B1, 2, none⟩))), (32, .val (.int .i64 (d + 1))), (31, .val (.int .i64 d)), (30, .val (.pointer (some ⟨B5, 0, none⟩))), (29, .val (.bool true)), (28, .val (.bool true)), (27, .val (.int .i64 d)), (26, .val (.pointer (some ⟨B5, 0, none⟩))), (1, .val (.pointer (some ⟨B1, 0, none⟩))), (2, .val (.pointer (some ⟨B1 + 1, 0, none⟩))), (4, .val (.pointer (some ⟨B3, 0, none⟩))), (6, .val (.pointer (some ⟨B5, 0, none⟩)))]) (ob := [true = true, true = true, Ad B5 0, true = true, (.int .i64 (IntKind.i64.wrap (d + 1)) : Value) = (.int .i64 (d + 1) : Value), true = true, true = true, Ad B1 2, true = true, true = true, Ad B1 0, true = true, (.int .i64 (IntKind.i64.wrap (x1 - x0)) : Value) = (.int .i64 (x1 - x0) : Value), true = true, true = true, Ad B1 3, true = true, true = true, Ad B1 1, true = true, (.int .i64 (IntKind.i64.wrap (y1 - y0)) : Value) = (.int .i64 (y1 - y0) : Value), true = true]) (by as_aux_lemma => kernel_rfl) rfl (Ac rfl (Ac rfl (Ac (ad _ _) (Ac rfl (Ac (wr (by omega)) (Ac rfl (Ac rfl (Ac (ad _ _) (Ac rfl (Ac rfl (Ac (ad _ _) (Ac rfl (Ac (wr (by omega)) (Ac rfl (Ac rfl (Ac (ad _ _) (Ac rfl (Ac rfl (Ac (ad _ _) (Ac rfl (Ac (wr (by omega)) (Ao rfl)))))))))))))))))))))) ?_
    clear hf; intro a hf
    have hM := MemOk.nil w7.drew
    refine sccallg rfl hf rfl rfl rfl rfl rfl (g := 37) (vs := [.int .i64 (d + 1)]) (ob := []) (by as_aux_lemma => kernel_rfl) An enters37 (side_any (d + 1) w7.drew  (by omega)) (by rintro _ _ ⟨rfl, hk⟩; exact hC.trans hk.nn) ?_
    clear hf; rintro _ w8 a ⟨rfl, hk⟩ hf
    have hM := hM.keepNn hk
    have hC := hC.trans hk.nn
    have hk0 := hk0.trans hk.nn
    clear hk
    refine sc0 hf hMr (by intro k _ h; cases h) hC [46, 45, 33, 44, 43, 42, 41, 40, 39, 38, 37, 36, 35, 34, 32, 31, 30, 29, 28, 27, 26, 1, 2, 4, 6] [{}, {}] (env' := [(46, .val (.bool (decide (((side (d + 1)) : Int) ≥ (if x1 - x0 < y1 - y0 then y1 - y0 else x1 - x0))))), (45, .val (.bool (decide (((side (d + 1)) : Int) ≥ (if x1 - x0 < y1 - y0 then y1 - y0 else x1 - x0))))), (33, .val (.int .i64 (side (d + 1)))), (44, .val (.int .i64 (if x1 - x0 < y1 - y0 then y1 - y0 else x1 - x0))), (43, .val (.int .i64 (y1 - y0))), (42, .val (.int .i64 y0)), (41, .val (.pointer (some ⟨B1, 1, none⟩))), (40, .val (.int .i64 y1)), (39, .val (.pointer (some ⟨B1, 3, none⟩))), (38, .val (.int .i64 (x1 - x0))), (37, .val (.int .i64 x0)), (36, .val (.pointer (some ⟨B1, 0, none⟩))), (35, .val (.int .i64 x1)), (34, .val (.pointer (some ⟨B1, 2, none⟩))), (32, .val (.int .i64 (d + 1))), (31, .val (.int .i64 d)), (30, .val (.pointer (some ⟨B5, 0, none⟩))), (29, .val (.bool true)), (28, .val (.bool true)), (27, .val (.int .i64 d)), (26, .val (.pointer (some ⟨B5, 0, none⟩))), (1, .val (.pointer (some ⟨B1, 0, none⟩))), (2, .val (.pointer (some ⟨B1 + 1, 0, none⟩))), (4, .val (.pointer (some ⟨B3, 0, none⟩))), (6, .val (.pointer (some ⟨B5, 0, none⟩)))]) (ob := [true = true]) (by as_aux_lemma => kernel_rfl) rfl (Ao rfl) ?_
    clear hf; intro a hf
    have hM := hMr.keep hC (by intro _ _ h; cases h)
    clear hMr hC hkd
    show K9 _ _
    refine hK9 _ _ ?_
    refine sxcond hf (b := (decide (((side (d + 1)) : Int) ≥ (if x1 - x0 < y1 - y0 then y1 - y0 else x1 - x0)))) (by kernel_rfl) (fun hc3 => ?_) (fun hc3 => ?_)
    · have hc3r := hc3
      try simp only [Bool.or_eq_true, Bool.and_eq_true, Bool.not_eq_true', Bool.not_eq_false', Bool.or_eq_false_iff, Bool.and_eq_false_iff, decide_eq_true_eq, decide_eq_false_iff_not, beq_iff_eq, bne_iff_ne, beq_eq_false_iff_ne, bne_eq_false_iff_eq, Bool.and_true, Bool.true_and, ne_eq] at hc3
      refine wp_skip ?_
      refine hK8 _ _ ?_
      refine wp_block ?_
      refine wp_region_lit ?_
      refine sr hf hM [46, 45, 33, 44, 43, 42, 41, 40, 39, 38, 37, 36, 35, 34, 32, 31, 30, 29, 28, 27, 26, 1, 2, 4, 6] [{}, { os := [.ld 3 0] }, { hint := some (.int .i64 (d + 1)) }, {}, { os := [.st 3 0] }] (env' := fun B6 => [(46, .val (.bool (decide (((side (d + 1)) : Int) ≥ (if x1 - x0 < y1 - y0 then y1 - y0 else x1 - x0))))), (45, .val (.bool (decide (((side (d + 1)) : Int) ≥ (if x1 - x0 < y1 - y0 then y1 - y0 else x1 - x0))))), (33, .val (.int .i64 (side (d + 1)))), (44, .val (.int .i64 (if x1 - x0 < y1 - y0 then y1 - y0 else x1 - x0))), (43, .val (.int .i64 (y1 - y0))), (42, .val (.int .i64 y0)), (41, .val (.pointer (some ⟨B1, 1, none⟩))), (40, .val (.int .i64 y1)), (39, .val (.pointer (some ⟨B1, 3, none⟩))), (38, .val (.int .i64 (x1 - x0))), (37, .val (.int .i64 x0)), (36, .val (.pointer (some ⟨B1, 0, none⟩))), (35, .val (.int .i64 x1)), (34, .val (.pointer (some ⟨B1, 2, none⟩))), (32, .val (.int .i64 (d + 1))), (31, .val (.int .i64 d)), (30, .val (.pointer (some ⟨B5, 0, none⟩))), (29, .val (.bool true)), (28, .val (.bool true)), (27, .val (.int .i64 d)), (26, .val (.pointer (some ⟨B5, 0, none⟩))), (1, .val (.pointer (some ⟨B1, 0, none⟩))), (2, .val (.pointer (some ⟨B1 + 1, 0, none⟩))), (4, .val (.pointer (some ⟨B3, 0, none⟩))), (6, .val (.pointer (some ⟨B5, 0, none⟩)))]) (M' := fun B6 => [⟨B1, 42, [.int .i64 x0, .int .i64 y0, .int .i64 x1, .int .i64 y1]⟩, ⟨B1 + 1, 44, [.int .i64 0, .int .i64 0, .int .i64 0]⟩, ⟨B3, 81, [.int .i64 ((x0 + x1) / 2), .int .i64 ((y0 + y1) / 2)]⟩, ⟨B5, 44, [.int .i64 (d + 1), .int .i64 0, .int .i64 0]⟩]) (ob := fun B6 => [Ad B5 0, (.int .i64 (IntKind.i64.wrap (d + 1)) : Value) = (.int .i64 (d + 1) : Value), Ad B5 0]) (fun B => by as_aux_lemma => kernel_rfl) (fun B6 => (Ac (ad _ _) (Ac (wr (by omega)) (Ao (ad _ _))))) ?_
      clear hf hM; intro a w9 B6 hf hM hB hk
      have hbB6 : w.heap.size ≤ B6 := by have := hk0.size; omega
      have hk0 := hk0.then hk (by intro i hi h; simp only [Is, Mem.names, List.map_cons, List.map_nil, List.mem_cons, List.not_mem_nil, or_false] at h; omega)
      clear hk hB
      refine wpList_nil ?_
      have hd2 : d + 1 ≤ depthOf (bsize x0 y0 x1 y1) := by
        refine (depthOf_iff hm (by omega)).1 ?_
        simp only [bsize] at *
        omega
      have hf := hf.prune [1, 2, 4, 6]
      replace hf : Fr 76 [(1, .val (.pointer (some ⟨B1, 0, none⟩))), (2, .val (.pointer (some ⟨B1 + 1, 0, none⟩))), (4, .val (.pointer (some ⟨B3, 0, none⟩))), (6, .val (.pointer (some ⟨B5, 0, none⟩)))] a := hf
      refine hL1 _ _ _ (by omega) ⟨d + 1, rfl, hf.conv (Ac rfl (Ac rfl (Ac rfl (Ao rfl)))), hM, hk0, ⟨by omega, hd2⟩⟩
    · have hc3r := hc3
      try simp only [Bool.or_eq_true, Bool.and_eq_true, Bool.not_eq_true', Bool.not_eq_false', Bool.or_eq_false_iff, Bool.and_eq_false_iff, decide_eq_true_eq, decide_eq_false_iff_not, beq_iff_eq, bne_iff_ne, beq_eq_false_iff_ne, bne_eq_false_iff_eq, Bool.and_true, Bool.true_and, ne_eq] at hc3
      refine wp_exit ?_
      refine hK7 _ _ ?_
      refine wp_seq_k (fun K10 hK10 => ?_)
      refine wp_region_lit ?_
      refine sr0 hf hM [7, 2, 4, 6] [{}, { os := [.ld 3 0] }, { sp := true, hint := some (.int .i64 (2 ^ d.toNat)) }, { hint := some (.int .i64 ((2 ^ d.toNat) - 1)) }, {}] (env' := [(7, .val (.int .i64 ((2 ^ d.toNat) - 1))), (2, .val (.pointer (some ⟨B1 + 1, 0, none⟩))), (4, .val (.pointer (some ⟨B3, 0, none⟩))), (6, .val (.pointer (some ⟨B5, 0, none⟩)))]) (ob := [Ad B5 0, 0 ≤ (d : Int), (.int .i64 (IntKind.i64.wrap (1 * 2 ^ (min (d : Int).toNat IntKind.i64.bits))) : Value) = (.int .i64 (2 ^ d.toNat) : Value), (.int .i64 (IntKind.i64.wrap ((2 ^ d.toNat) - 1)) : Value) = (.int .i64 ((2 ^ d.toNat) - 1) : Value)]) (fun B => by as_aux_lemma => kernel_rfl) rfl (Ac (ad _ _) (Ac (by omega) (Ac (shl_one (by omega)) (Ao (wr (by omega)))))) ?_
      clear hf; intro a hf
      refine wpList_nil ?_
      refine hK10 _ _ ?_
      refine wp_seq_k (fun K11 hK11 => ?_)
      refine sxdraw2 [] [B5] [(0, true), (1, true), (2, true), (3, true), (4, true), (7, true), (5, false), (6, true), (8, true)] [(9, true), (10, false)] [0, 1, 2, 3, 4, 5, 6, 7, 8] (by kernel_rfl) (by kernel_rfl) (by as_aux_lemma => kernel_rfl) rfl (by as_aux_lemma => kernel_rfl) (by kernel_rfl) (by as_aux_lemma => kernel_rfl) (by kernel_rfl) ?_
      replace hM := hM.drew; replace hk0 := hk0.drew
      have hkd := hk0
      have hC : Keep (Is []) w8.drew w8.drew := Keep.refl _ _
      have hM0 := hM
      have hMr := hM
      refine sc0 hf hMr (by intro k _ h; cases h) hC [62, 59, 57, 7, 2, 4, 6] [{}, { os := [.ld 2 0] }, { hint := some (.int .i64 (((x0 + x1) / 2) + 2097152)) }, {}, { os := [.ld 3 0] }, {}] (env' := [(62, .val (.int .i64 ((2 ^ d.toNat) - 1))), (59, .val (.int .i64 d)), (57, .val (.int .i64 (((x0 + x1) / 2) + 2097152))), (7, .val (.int .i64 ((2 ^ d.toNat) - 1))), (2, .val (.pointer (some ⟨B1 + 1, 0, none⟩))), (4, .val (.pointer (some ⟨B3, 0, none⟩))), (6, .val (.pointer (some ⟨B5, 0, none⟩)))]) (ob := [Ad B3 0, (.int .i64 (IntKind.i64.wrap (((x0 + x1) / 2) + 2097152)) : Value) = (.int .i64 (((x0 + x1) / 2) + 2097152) : Value), Ad B5 0]) (by as_aux_lemma => kernel_rfl) rfl (Ac (ad _ _) (Ac (wr (by omega)) (Ao (ad _ _)))) ?_
      clear hf; intro a hf
      have hM := MemOk.nil w8.drew
      refine sccall rfl hf rfl rfl rfl rfl (g := 37) (vs := [.int .i64 d]) (ob := []) (by as_aux_lemma => kernel_rfl) An enters37 (side_any d w8.drew  (by omega)) (by rintro _ _ ⟨rfl, hk⟩; exact hC.trans hk.nn) ?_
      clear hf; rintro _ w10 a ⟨rfl, hk⟩ hf
      have hM := hM.keepNn hk
      have hC := hC.trans hk.nn
      have hk0 := hk0.trans hk.nn
      clear hk
      refine sc0 hf hMr (by intro k _ h; cases h) hC [63, 7, 2, 4, 6] [{ sp := true, hint := some (.int .i64 (((x0 + x1) / 2 + 2097152) / side d)) }, { hint := some (.int .i64 (colOf ((x0 + x1) / 2) d)) }] (env' := [(63, .val (.int .i64 (colOf ((x0 + x1) / 2) d))), (7, .val (.int .i64 ((2 ^ d.toNat) - 1))), (2, .val (.pointer (some ⟨B1 + 1, 0, none⟩))), (4, .val (.pointer (some ⟨B3, 0, none⟩))), (6, .val (.pointer (some ⟨B5, 0, none⟩)))]) (ob := [(side d) ≠ 0, (.int .i64 (IntKind.i64.wrap (Int.tdiv (((x0 + x1) / 2) + 2097152) (side d))) : Value) = (.int .i64 (((x0 + x1) / 2 + 2097152) / side d) : Value), (.int .i64 (if (2 ^ d.toNat) - 1 < ((x0 + x1) / 2 + 2097152) / side d then (2 ^ d.toNat) - 1 else ((x0 + x1) / 2 + 2097152) / side d) : Value) = (.int .i64 (colOf ((x0 + x1) / 2) d) : Value)]) (by as_aux_lemma => kernel_rfl) rfl (Ac (by omega) (Ac (quoN (by omega)) (Ao rfl))) ?_
      clear hf; intro a hf
      have hM : MemOk [⟨B1, 42, [.int .i64 x0, .int .i64 y0, .int .i64 x1, .int .i64 y1]⟩, ⟨B1 + 1, 44, [.int .i64 0, .int .i64 0, .int .i64 0]⟩, ⟨B3, 81, [.int .i64 ((x0 + x1) / 2), .int .i64 ((y0 + y1) / 2)]⟩, ⟨B5, 44, [.int .i64 d, .int .i64 0, .int .i64 0]⟩] w10 := hMr.keep hC (by intro _ _ h; cases h)
      clear hMr hM0 hC hkd; refine sxnext ?_
      have hkd := hk0
      have hC : Keep (Is [B5]) w10 w10 := Keep.refl _ _
      have hM0 := hM
      have hMr : MemOk [⟨B1, 42, [.int .i64 x0, .int .i64 y0, .int .i64 x1, .int .i64 y1]⟩, ⟨B1 + 1, 44, [.int .i64 0, .int .i64 0, .int .i64 0]⟩, ⟨B3, 81, [.int .i64 ((x0 + x1) / 2), .int .i64 ((y0 + y1) / 2)]⟩] w10 := hM.sub (.cons_cons _ (.cons_cons _ (.cons_cons _ (.cons _ .slnil))))
      have hMs : MemOk [⟨B5, 44, [.int .i64 d, .int .i64 0, .int .i64 0]⟩] w10 := hM.sub (.cons _ (.cons _ (.cons _ (.cons_cons _ .slnil))))
      have hnd := hM.nd; simp only [Mem.names, List.map_cons, List.map_nil, List.nodup_cons, List.mem_cons, List.not_mem_nil, or_false, not_or, not_false_eq_true, List.nodup_nil, and_true] at hnd
      refine sc0 hf hMr (by intro k hk h; simp only [Is, Mem.names, List.map_cons, List.map_nil, List.mem_cons, List.not_mem_nil, or_false] at hk h; omega) hC [64, 63, 7, 2, 4, 6] [{}] (env' := [(64, .val (.pointer (some ⟨B5, 1, none⟩))), (63, .val (.int .i64 (colOf ((x0 + x1) / 2) d))), (7, .val (.int .i64 ((2 ^ d.toNat) - 1))), (2, .val (.pointer (some ⟨B1 + 1, 0, none⟩))), (4, .val (.pointer (some ⟨B3, 0, none⟩))), (6, .val (.pointer (some ⟨B5, 0, none⟩)))]) (ob := []) (by as_aux_lemma => kernel_rfl) rfl An ?_
      clear hf; intro a hf
      refine sc1 rfl hf hMs (by intro k hk; exact hk) hC [7, 2, 4, 6] { os := [.st 0 1] } (env' := fun B8 => [(7, .val (.int .i64 ((2 ^ d.toNat) - 1))), (2, .val (.pointer (some ⟨B1 + 1, 0, none⟩))), (4, .val (.pointer (some ⟨B3, 0, none⟩))), (6, .val (.pointer (some ⟨B5, 0, none⟩)))]) (M' := fun B8 => [⟨B5, 44, [.int .i64 d, .int .i64 (colOf ((x0 + x1) / 2) d), .int .i64 0]⟩]) (ob := fun B8 => [Ad B5 1]) (fun B => by as_aux_lemma => kernel_rfl) (fun B8 => (Ao (ad _ _))) ?_
      clear hf hMs; intro a w11 B8 hf hMs hB hk hC
      have hk0 := hk0.then hk (by intro i hi h; simp only [Is, Mem.names, List.map_cons, List.map_nil, List.mem_cons, List.not_mem_nil, or_false] at h; omega)
      clear hk
      clear hB
      have hM : MemOk [⟨B1, 42, [.int .i64 x0, .int .i64 y0, .int .i64 x1, .int .i64 y1]⟩, ⟨B1 + 1, 44, [.int .i64 0, .int .i64 0, .int .i64 0]⟩, ⟨B3, 81, [.int .i64 ((x0 + x1) / 2), .int .i64 ((y0 + y1) / 2)]⟩, ⟨B5, 44, [.int .i64 d, .int .i64 (colOf ((x0 + x1) / 2) d), .int .i64 0]⟩] w11 := hM0.merge (hMr.keep hC (by intro k hk h; simp only [Is, Mem.names, List.map_cons, List.map_nil, List.mem_cons, List.not_mem_nil, or_false] at hk h; omega)) hMs rfl (by intro b hb; simp only [List.mem_cons, List.not_mem_nil, or_false] at hb ⊢; first | (rcases hb with rfl | rfl <;> simp) | (rcases hb with rfl | rfl | rfl <;> simp) | (rcases hb with rfl | rfl | rfl | rfl <;> simp) | (rcases hb with rfl | rfl | rfl | rfl | rfl <;> simp) | (rcases hb with rfl | rfl | rfl | rfl | rfl | rfl <;> simp))
      clear hMr hC hkd hMs hnd
      show K11 _ _
      refine hK11 _ _ ?_
      refine wp_seq_k (fun K12 hK12 => ?_)
      refine sxdraw2 [] [B5] [(0, true), (1, true), (2, true), (3, true), (4, true), (7, true), (5, false), (6, true), (8, true)] [(9, true), (10, false)] [0, 1, 2, 3, 4, 5, 6, 7, 8] (by kernel_rfl) (by kernel_rfl) (by as_aux_lemma => kernel_rfl) rfl (by as_aux_lemma => kernel_rfl) (by kernel_rfl) (by as_aux_lemma => kernel_rfl) (by kernel_rfl) ?_
      replace hM := hM.drew; replace hk0 := hk0.drew
      have hkd := hk0
      have hC : Keep (Is []) w11.drew w11.drew := Keep.refl _ _
      have hM0 := hM
      have hMr := hM
      refine sc0 hf hMr (by intro k _ h; cases h) hC [72, 69, 67, 2, 6] [{}, { os := [.ld 2 1] }, { hint := some (.int .i64 (((y0 + y1) / 2) + 2097152)) }, {}, { os := [.ld 3 0] }, {}] (env' := [(72, .val (.int .i64 ((2 ^ d.toNat) - 1))), (69, .val (.int .i64 d)), (67, .val (.int .i64 (((y0 + y1) / 2) + 2097152))), (2, .val (.pointer (some ⟨B1 + 1, 0, none⟩))), (6, .val (.pointer (some ⟨B5, 0, none⟩)))]) (ob := [Ad B3 1, (.int .i64 (IntKind.i64.wrap (((y0 + y1) / 2) + 2097152)) : Value) = (.int .i64 (((y0 + y1) / 2) + 2097152) : Value), Ad B5 0]) (by as_aux_lemma => kernel_rfl) rfl (Ac (ad _ _) (Ac (wr (by omega)) (Ao (ad _ _)))) ?_
      clear hf; intro a hf
      have hM := MemOk.nil w11.drew
      refine sccall rfl hf rfl rfl rfl rfl (g := 37) (vs := [.int .i64 d]) (ob := []) (by as_aux_lemma => kernel_rfl) An enters37 (side_any d w11.drew  (by omega)) (by rintro _ _ ⟨rfl, hk⟩; exact hC.trans hk.nn) ?_
      clear hf; rintro _ w12 a ⟨rfl, hk⟩ hf
      have hM := hM.keepNn hk
      have hC := hC.trans hk.nn
      have hk0 := hk0.trans hk.nn
      clear hk
      refine sc0 hf hMr (by intro k _ h; cases h) hC [73, 2, 6] [{ sp := true, hint := some (.int .i64 (((y0 + y1) / 2 + 2097152) / side d)) }, { hint := some (.int .i64 (colOf ((y0 + y1) / 2) d)) }] (env' := [(73, .val (.int .i64 (colOf ((y0 + y1) / 2) d))), (2, .val (.pointer (some ⟨B1 + 1, 0, none⟩))), (6, .val (.pointer (some ⟨B5, 0, none⟩)))]) (ob := [(side d) ≠ 0, (.int .i64 (IntKind.i64.wrap (Int.tdiv (((y0 + y1) / 2) + 2097152) (side d))) : Value) = (.int .i64 (((y0 + y1) / 2 + 2097152) / side d) : Value), (.int .i64 (if (2 ^ d.toNat) - 1 < ((y0 + y1) / 2 + 2097152) / side d then (2 ^ d.toNat) - 1 else ((y0 + y1) / 2 + 2097152) / side d) : Value) = (.int .i64 (colOf ((y0 + y1) / 2) d) : Value)]) (by as_aux_lemma => kernel_rfl) rfl (Ac (by omega) (Ac (quoN (by omega)) (Ao rfl))) ?_
      clear hf; intro a hf
      have hM : MemOk [⟨B1, 42, [.int .i64 x0, .int .i64 y0, .int .i64 x1, .int .i64 y1]⟩, ⟨B1 + 1, 44, [.int .i64 0, .int .i64 0, .int .i64 0]⟩, ⟨B3, 81, [.int .i64 ((x0 + x1) / 2), .int .i64 ((y0 + y1) / 2)]⟩, ⟨B5, 44, [.int .i64 d, .int .i64 (colOf ((x0 + x1) / 2) d), .int .i64 0]⟩] w12 := hMr.keep hC (by intro _ _ h; cases h)
      clear hMr hM0 hC hkd; refine sxnext ?_
      have hkd := hk0
      have hC : Keep (Is [B5]) w12 w12 := Keep.refl _ _
      have hM0 := hM
      have hMr : MemOk [⟨B1, 42, [.int .i64 x0, .int .i64 y0, .int .i64 x1, .int .i64 y1]⟩, ⟨B1 + 1, 44, [.int .i64 0, .int .i64 0, .int .i64 0]⟩, ⟨B3, 81, [.int .i64 ((x0 + x1) / 2), .int .i64 ((y0 + y1) / 2)]⟩] w12 := hM.sub (.cons_cons _ (.cons_cons _ (.cons_cons _ (.cons _ .slnil))))
      have hMs : MemOk [⟨B5, 44, [.int .i64 d, .int .i64 (colOf ((x0 + x1) / 2) d), .int .i64 0]⟩] w12 := hM.sub (.cons _ (.cons _ (.cons _ (.cons_cons _ .slnil))))
      have hnd := hM.nd; simp only [Mem.names, List.map_cons, List.map_nil, List.nodup_cons, List.mem_cons, List.not_mem_nil, or_false, not_or, not_false_eq_true, List.nodup_nil, and_true] at hnd
      refine sc0 hf hMr (by intro k hk h; simp only [Is, Mem.names, List.map_cons, List.map_nil, List.mem_cons, List.not_mem_nil, or_false] at hk h; omega) hC [74, 73, 2, 6] [{}] (env' := [(74, .val (.pointer (some ⟨B5, 2, none⟩))), (73, .val (.int .i64 (colOf ((y0 + y1) / 2) d))), (2, .val (.pointer (some ⟨B1 + 1, 0, none⟩))), (6, .val (.pointer (some ⟨B5, 0, none⟩)))]) (ob := []) (by as_aux_lemma => kernel_rfl) rfl An ?_
      clear hf; intro a hf
      refine sc1 rfl hf hMs (by intro k hk; exact hk) hC [2, 6] { os := [.st 0 2] } (env' := fun B9 => [(2, .val (.pointer (some ⟨B1 + 1, 0, none⟩))), (6, .val (.pointer (some ⟨B5, 0, none⟩)))]) (M' := fun B9 => [⟨B5, 44, [.int .i64 d, .int .i64 (colOf ((x0 + x1) / 2) d), .int .i64 (colOf ((y0 + y1) / 2) d)]⟩]) (ob := fun B9 => [Ad B5 2]) (fun B => by as_aux_lemma => kernel_rfl) (fun B9 => (Ao (ad _ _))) ?_
      clear hf hMs; intro a w13 B9 hf hMs hB hk hC
      have hk0 := hk0.then hk (by intro i hi h; simp only [Is, Mem.names, List.map_cons, List.map_nil, List.mem_cons, List.not_mem_nil, or_false] at h; omega)
      clear hk
      clear hB
      have hM : MemOk [⟨B1, 42, [.int .i64 x0, .int .i64 y0, .int .i64 x1, .int .i64 y1]⟩, ⟨B1 + 1, 44, [.int .i64 0, .int .i64 0, .int .i64 0]⟩, ⟨B3, 81, [.int .i64 ((x0 + x1) / 2), .int .i64 ((y0 + y1) / 2)]⟩, ⟨B5, 44, [.int .i64 d, .int .i64 (colOf ((x0 + x1) / 2) d), .int .i64 (colOf ((y0 + y1) / 2) d)]⟩] w13 := hM0.merge (hMr.keep hC (by intro k hk h; simp only [Is, Mem.names, List.map_cons, List.map_nil, List.mem_cons, List.not_mem_nil, or_false] at hk h; omega)) hMs rfl (by intro b hb; simp only [List.mem_cons, List.not_mem_nil, or_false] at hb ⊢; first | (rcases hb with rfl | rfl <;> simp) | (rcases hb with rfl | rfl | rfl <;> simp) | (rcases hb with rfl | rfl | rfl | rfl <;> simp) | (rcases hb with rfl | rfl | rfl | rfl | rfl <;> simp) | (rcases hb with rfl | rfl | rfl | rfl | rfl | rfl <;> simp))
      clear hMr hC hkd hMs hnd
      show K12 _ _
      refine hK12 _ _ ?_
      refine wp_seq_k (fun K13 hK13 => ?_)
      refine wp_region_lit ?_
      refine sr hf hM [3, 2] [{ os := [.ld 3 0, .ld 3 1, .ld 3 2] }, { os := [.st 1 0, .st 1 1, .st 1 2] }, {}] (env' := fun B10 => [(3, .val (.nilIface)), (2, .val (.pointer (some ⟨B1 + 1, 0, none⟩)))]) (M' := fun B10 => [⟨B1, 42, [.int .i64 x0, .int .i64 y0, .int .i64 x1, .int .i64 y1]⟩, ⟨B1 + 1, 44, [.int .i64 d, .int .i64 (colOf ((x0 + x1) / 2) d), .int .i64 (colOf ((y0 + y1) / 2) d)]⟩, ⟨B3, 81, [.int .i64 ((x0 + x1) / 2), .int .i64 ((y0 + y1) / 2)]⟩, ⟨B5, 44, [.int .i64 d, .int .i64 (colOf ((x0 + x1) / 2) d), .int .i64 (colOf ((y0 + y1) / 2) d)]⟩]) (ob := fun B10 => [Ad B5 0, Ad B5 1, Ad B5 2, Ad (B1 + 1) 0, Ad (B1 + 1) 1, Ad (B1 + 1) 2]) (fun B => by as_aux_lemma => kernel_rfl) (fun B10 => (Ac (ad _ _) (Ac (ad _ _) (Ac (ad _ _) (Ac (ad _ _) (Ac (ad _ _) (Ao (ad _ _)))))))) ?_
      clear hf hM; intro a w14 B10 hf hM hB hk
      have hbB10 : w.heap.size ≤ B10 := by have := hk0.size; omega
      have hk0 := hk0.then hk (by intro i hi h; simp only [Is, Mem.names, List.map_cons, List.map_nil, List.mem_cons, List.not_mem_nil, or_false] at h; omega)
      clear hk hB
      refine wpList_nil ?_
      refine hK13 _ _ ?_
      refine wp_ret ?_
      refine sxret (fn := Tryd.f16) hf hM [.ld 1 0, .ld 1 1, .ld 1 2] (l := [.agg #[.int .i64 d, .int .i64 (colOf ((x0 + x1) / 2) d), .int .i64 (colOf ((y0 + y1) / 2) d)], .nilIface]) (M' := [⟨B1, 42, [.int .i64 x0, .int .i64 y0, .int .i64 x1, .int .i64 y1]⟩, ⟨B1 + 1, 44, [.int .i64 d, .int .i64 (colOf ((x0 + x1) / 2) d), .int .i64 (colOf ((y0 + y1) / 2) d)]⟩, ⟨B3, 81, [.int .i64 ((x0 + x1) / 2), .int .i64 ((y0 + y1) / 2)]⟩, ⟨B5, 44, [.int .i64 d, .int .i64 (colOf ((x0 + x1) / 2) d), .int .i64 (colOf ((y0 + y1) / 2) d)]⟩]) (d' := false) (ob := [Ad (B1 + 1) 0, Ad (B1 + 1) 1, Ad (B1 + 1) 2]) (by kernel_rfl) (fun B => ⟨B, by as_aux_lemma => kernel_rfl⟩) rfl (Ac (ad _ _) (Ac (ad _ _) (Ao (ad _ _)))) ?_
      show (.tuple #[.agg #[.int .i64 d, .int .i64 (colOf ((x0 + x1) / 2) d), .int .i64 (colOf ((y0 + y1) / 2) d)], .nilIface] : Value) = .tuple #[.agg #[.int .i64 (depthOf (bsize x0 y0 x1 y1)), .int .i64 (colOf ((x0 + x1) / 2) (depthOf (bsize x0 y0 x1 y1))), .int .i64 (colOf ((y0 + y1) / 2) (depthOf (bsize x0 y0 x1 y1)))], .nilIface] ∧ Keep Nn w w14
      have hdd : depthOf (bsize x0 y0 x1 y1) = d := by
        by_cases h8 : d = 8
        · omega
        · have h := depthOf_iff hm (by omega : 0 ≤ d + 1 ∧ d + 1 ≤ 8)
          simp only [bsize] at *
          omega
      rw [hdd]
      exact ⟨rfl, hk0⟩
  · have hg1r := hg1
    have hf := hf.prune [29, 28, 27, 26, 1, 2, 4, 6]
    replace hf : Fr 76 [(29, .val (.bool (decide ((d : Int) < 8)))), (28, .val (.bool (decide ((d : Int) < 8)))), (27, .val (.int .i64 d)), (26, .val (.pointer (some ⟨B5, 0, none⟩))), (1, .val (.pointer (some ⟨B1, 0, none⟩))), (2, .val (.pointer (some ⟨B1 + 1, 0, none⟩))), (4, .val (.pointer (some ⟨B3, 0, none⟩))), (6, .val (.pointer (some ⟨B5, 0, none⟩)))] a := hf
    replace hf := hf.conv (env' := [(29, .val (.bool false)), (28, .val (.bool false)), (27, .val (.int .i64 d)), (26, .val (.pointer (some ⟨B5, 0, none⟩))), (1, .val (.pointer (some ⟨B1, 0, none⟩))), (2, .val (.pointer (some ⟨B1 + 1, 0, none⟩))), (4, .val (.pointer (some ⟨B3, 0, none⟩))), (6, .val (.pointer (some ⟨B5, 0, none⟩)))]) (Ac (congrArg Value.bool hg1r) (Ac (congrArg Value.bool hg1r) (Ac rfl (Ac rfl (Ac rfl (Ac rfl (Ac rfl (Ao rfl))))))))
    try simp only [Bool.or_eq_true, Bool.and_eq_true, Bool.not_eq_true', Bool.not_eq_false', Bool.or_eq_false_iff, Bool.and_eq_false_iff, decide_eq_true_eq, decide_eq_false_iff_not, beq_iff_eq, bne_iff_ne, beq_eq_false_iff_ne, bne_eq_false_iff_eq, Bool.and_true, Bool.true_and, ne_eq] at hg1
    refine sc0 hf hMr (by intro k _ h; cases h) hC [44, 43, 42, 41, 40, 39, 38, 37, 36, 35, 34, 32, 31, 30, 29, 28, 27, 26, 1, 2, 4, 6] [{ g := .off }, { g := .off }, { g := .off }, { g := .off }, { g := .off }, { g := .off }, { g := .off }, { g := .off }, { g := .off }, { g := .off }, { g := .off }, { g := .off }, { g := .off }, { g := .off }] (env' := [(44, .val (undef)), (43, .val (undef)), (42, .val (undef)), (41, .val (undef)), (40, .val (undef)), (39, .val (undef)), (38, .val (undef)), (37, .val (undef)), (36, .val (undef)), (35, .val (undef)), (34, .val (undef)), (32, .val (undef)), (31, .val (undef)), (30, .val (undef)), (29, .val (.bool false)), (28, .val (.bool false)), (27, .val (.int .i64 d)), (26, .val (.pointer (some ⟨B5, 0, none⟩))), (1, .val (.pointer (some ⟨B1, 0, none⟩))), (2, .val (.pointer (some ⟨B1 + 1, 0, none⟩))), (4, .val (.pointer (some ⟨B3, 0, none⟩))), (6, .val (.pointer (some ⟨B5, 0, none⟩)))]) (ob := [false = !true, false = !true, false = !true, false = !true, false = !true, false = !true, false = !true, false = !true, false = !true, false = !true, false = !true, false = !true, false = !true, false = !true]) (by as_aux_lemma => kernel_rfl) rfl (Ac rfl (Ac rfl (Ac rfl (Ac rfl (Ac rfl (Ac rfl (Ac rfl (Ac rfl (Ac rfl (Ac rfl (Ac rfl (Ac rfl (Ac rfl (Ao rfl)))))))))))))) ?_
    clear hf; intro a hf
    refine sc1 rfl hf (MemOk.nil _) (by intro k hk; cases hk) hC [33, 44, 43, 42, 41, 40, 39, 38, 37, 36, 35, 34, 32, 31, 30, 29, 28, 27, 26, 1, 2, 4, 6] { g := .off } (env' := fun B11 => [(33, .val (undef)), (44, .val (undef)), (43, .val (undef)), (42, .val (undef)), (41, .val (undef)), (40, .val (undef)), (39, .val (undef)), (38, .val (undef)), (37, .val (undef)), (36, .val (undef)), (35, .val (undef)), (34, .val (undef)), (32, .val (undef)), (31, .val (undef)), (30, .val (undef)), (29, .val (.bool false)), (28, .val (.bool false)), (27, .val (.int .i64 d)), (26, .val (.pointer (some ⟨B5, 0, none⟩))), (1, .val (.pointer (some ⟨B1, 0, none⟩))), (2, .val (.pointer (some ⟨B1 + 1, 0, none⟩))), (4, .val (.pointer (some ⟨B3, 0, none⟩))), (6, .val (.pointer (some ⟨B5, 0, none⟩)))]) (M' := fun B11 => []) (ob := fun B11 => [false = !true]) (fun B => by as_aux_lemma => kernel_rfl) (fun _ => Ao rfl) ?_
    clear hf; intro a w15 B11 hf _ hB hk hC
    have hk0 := hk0.then hk (by intro i _ h; cases h)
    clear hk
    clear hB
    refine sc0 hf hMr (by intro k _ h; cases h) hC [46, 45, 33, 44, 43, 42, 41, 40, 39, 38, 37, 36, 35, 34, 32, 31, 30, 29, 28, 27, 26, 1, 2, 4, 6] [{ g := .off }, {}] (env' := [(46, .val (.bool false)), (45, .val (undef)), (33, .val (undef)), (44, .val (undef)), (43, .val (undef)), (42, .val (undef)), (41, .val (undef)), (40, .val (undef)), (39, .val (undef)), (38, .val (undef)), (37, .val (undef)), (36, .val (undef)), (35, .val (undef)), (34, .val (undef)), (32, .val (undef)), (31, .val (undef)), (30, .val (undef)), (29, .val (.bool false)), (28, .val (.bool false)), (27, .val (.int .i64 d)), (26, .val (.pointer (some ⟨B5, 0, none⟩))), (1, .val (.pointer (some ⟨B1, 0, none⟩))), (2, .val (.pointer (some ⟨B1 + 1, 0, none⟩))), (4, .val (.pointer (some ⟨B3, 0, none⟩))), (6, .val (.pointer (some ⟨B5, 0, none⟩)))]) (ob := [false = !true]) (by as_aux_lemma => kernel_rfl) rfl (Ao rfl) ?_
    clear hf; intro a hf
    have hM := hMr.keep hC (by intro _ _ h; cases h)
    clear hMr hC hkd
    show K9 _ _
    refine hK9 _ _ ?_
    refine sxcond hf (b := false) (by kernel_rfl) (fun h => by cases h) (fun _ => ?_)
    refine wp_exit ?_
    refine hK7 _ _ ?_
    refine wp_seq_k (fun K14 hK14 => ?_)
    refine wp_region_lit ?_
    refine sr0 hf hM [7, 2, 4, 6] [{}, { os := [.ld 3 0] }, { sp := true, hint := some (.int .i64 (2 ^ d.toNat)) }, { hint := some (.int .i64 ((2 ^ d.toNat) - 1)) }, {}] (env' := [(7, .val (.int .i64 ((2 ^ d.toNat) - 1))), (2, .val (.pointer (some ⟨B1 + 1, 0, none⟩))), (4, .val (.pointer (some ⟨B3, 0, none⟩))), (6, .val (.pointer (some ⟨B5, 0, none⟩)))]) (ob := [Ad B5 0, 0 ≤ (d : Int), (.int .i64 (IntKind.i64.wrap (1 * 2 ^ (min (d : Int).toNat IntKind.i64.bits))) : Value) = (.int .i64 (2 ^ d.toNat) : Value), (.int .i64 (IntKind.i64.wrap ((2 ^ d.toNat) - 1)) : Value) = (.int .i64 ((2 ^ d.toNat) - 1) : Value)]) (fun B => by as_aux_lemma => kernel_rfl) rfl (Ac (ad _ _) (Ac (by omega) (Ac (shl_one (by omega)) (Ao (wr (by omega)))))) ?_
    clear hf; intro a hf
    refine wpList_nil ?_
    refine hK14 _ _ ?_
    refine wp_seq_k (fun K15 hK15 => ?_)
    refine sxdraw2 [] [B5] [(0, true), (1, true), (2, true), (3, true), (4, true), (7, true), (5, false), (6, true), (8, true)] [(9, true), (10, false)] [0, 1, 2, 3, 4, 5, 6, 7, 8] (by kernel_rfl) (by kernel_rfl) (by as_aux_lemma => kernel_rfl) rfl (by as_aux_lemma => kernel_rfl) (by kernel_rfl) (by as_aux_lemma => kernel_rfl) (by kernel_rfl) ?_
    replace hM := hM.drew; replace hk0 := hk0.drew
    have hkd := hk0
    have hC : Keep (Is []) w15.drew w15.drew := Keep.refl _ _
    have hM0 := hM
    have hMr := hM
    refine sc0 hf hMr (by intro k _ h; cases h) hC [62, 59, 57, 7, 2, 4, 6] [{}, { os := [.ld 2 0] }, { hint := some (.int .i64 (((x0 + x1) / 2) + 2097152)) }, {}, { os := [.ld 3 0] }, {}] (env' := [(62, .val (.int .i64 ((2 ^ d.toNat) - 1))), (59, .val (.int .i64 d)), (57, .val (.int .i64 (((x0 + x1) / 2) + 2097152))), (7, .val (.int .i64 ((2 ^ d.toNat) - 1))), (2, .val (.pointer (some ⟨B1 + 1, 0, none⟩))), (4, .val (.pointer (some ⟨B3, 0, none⟩))), (6, .val (.pointer (some ⟨B5, 0, none⟩)))]) (ob := [Ad B3 0, (.int .i64 (IntKind.i64.wrap (((x0 + x1) / 2) + 2097152)) : Value) = (.int .i64 (((x0 + x1) / 2) + 2097152) : Value), Ad B5 0]) (by as_aux_lemma => kernel_rfl) rfl (Ac (ad _ _) (Ac (wr (by omega)) (Ao (ad _ _)))) ?_
    clear hf; intro a hf
    have hM := MemOk.nil w15.drew
    refine sccall rfl hf rfl rfl rfl rfl (g := 37) (vs := [.int .i64 d]) (ob := []) (by as_aux_lemma => kernel_rfl) An enters37 (side_any d w15.drew  (by omega)) (by rintro _ _ ⟨rfl, hk⟩; exact hC.trans hk.nn) ?_
    clear hf; rintro _ w16 a ⟨rfl, hk⟩ hf
    have hM := hM.keepNn hk
    have hC := hC.trans hk.nn
    have hk0 := hk0.trans hk.nn
    clear hk
    refine sc0 hf hMr (by intro k _ h; cases h) hC [63, 7, 2, 4, 6] [{ sp := true, hint := some (.int .i64 (((x0 + x1) / 2 + 2097152) / side d)) }, { hint := some (.int .i64 (colOf ((x0 + x1) / 2) d)) }] (env' := [(63, .val (.int .i64 (colOf ((x0 + x1) / 2) d))), (7, .val (.int .i64 ((2 ^ d.toNat) - 1))), (2, .val (.pointer (some ⟨B1 + 1, 0, none⟩))), (4, .val (.pointer (some ⟨B3, 0, none⟩))), (6, .val (.pointer (some ⟨B5, 0, none⟩)))]) (ob := [(side d) ≠ 0, (.int .i64 (IntKind.i64.wrap (Int.tdiv (((x0 + x1) / 2) + 2097152) (side d))) : Value) = (.int .i64 (((x0 + x1) / 2 + 2097152) / side d) : Value), (.int .i64 (if (2 ^ d.toNat) - 1 < ((x0 + x1) / 2 + 2097152) / side d then (2 ^ d.toNat) - 1 else ((x0 + x1) / 2 + 2097152) / side d) : Value) = (.int .i64 (colOf ((x0 + x1) / 2) d) : Value)]) (by as_aux_lemma => kernel_rfl) rfl (Ac (by omega) (Ac (quoN (by omega)) (Ao rfl))) ?_
    clear hf; intro a hf
    have hM : MemOk [⟨B1, 42, [.int .i64 x0, .int .i64 y0, .int .i64 x1, .int .i64 y1]⟩, ⟨B1 + 1, 44, [.int .i64 0, .int .i64 0, .int .i64 0]⟩, ⟨B3, 81, [.int .i64 ((x0 + x1) / 2), .int .i64 ((y0 + y1) / 2)]⟩, ⟨B5, 44, [.int .i64 d, .int .i64 0, .int .i64 0]⟩] w16 := hMr.keep hC (by intro _ _ h; cases h)
    clear hMr hM0 hC hkd; refine sxnext ?_
    have hkd := hk0
    have hC : Keep (Is [B5]) w16 w16 := Keep.refl _ _
    have hM0 := hM
    have hMr : MemOk [⟨B1, 42, [.int .i64 x0, .int .i64 y0, .int .i64 x1, .int .i64 y1]⟩, ⟨B1 + 1, 44, [.int .i64 0, .int .i64 0, .int .i64 0]⟩, ⟨B3, 81, [.int .i64 ((x0 + x1) / 2), .int .i64 ((y0 + y1) / 2)]⟩] w16 := hM.sub (.cons_cons _ (.cons_cons _ (.cons_cons _ (.cons _ .slnil))))
    have hMs : MemOk [⟨B5, 44, [.int .i64 d, .int .i64 0, .int .i64 0]⟩] w16 := hM.sub (.cons _ (.cons _ (.cons _ (.cons_cons _ .slnil))))
    have hnd := hM.nd; simp only [Mem.names, List.map_cons, List.map_nil, List.nodup_cons, List.mem_cons, List.not_mem_nil, or_false, not_or, not_false_eq_true, List.nodup_nil, and_true] at hnd
    refine sc0 hf hMr (by intro k hk h; simp only [Is, Mem.names, List.map_cons, List.map_nil, List.mem_cons, List.not_mem_nil, or_false] at hk h; omega) hC [64, 63, 7, 2, 4, 6] [{}] (env' := [(64, .val (.pointer (some ⟨B5, 1, none⟩))), (63, .val (.int .i64 (colOf ((x0 + x1) / 2) d))), (7, .val (.int .i64 ((2 ^ d.toNat) - 1))), (2, .val (.pointer (some ⟨B1 + 1, 0, none⟩))), (4, .val (.pointer (some ⟨B3, 0, none⟩))), (6, .val (.pointer (some ⟨B5, 0, none⟩)))]) (ob := []) (by as_aux_lemma => kernel_rfl) rfl An ?_
    clear hf; intro a hf
    refine sc1 rfl hf hMs (by intro k hk; exact hk) hC [7, 2, 4, 6] { os := [.st 0 1] } (env' := fun B13 => [(7, .val (.int .i64 ((2 ^ d.toNat) - 1))), (2, .val (.pointer (some ⟨B1 + 1, 0, none⟩))), (4, .val (.pointer (some ⟨B3, 0, none⟩))), (6, .val (.pointer (some ⟨B5, 0, none⟩)))]) (M' := fun B13 => [⟨B5, 44, [.int .i64 d, .int .i64 (colOf ((x0 + x1) / 2) d), .int .i64 0]⟩]) (ob := fun B13 => [Ad B5 1]) (fun B => by as_aux_lemma => kernel_rfl) (fun B13 => (Ao (ad _ _))) ?_
    clear hf hMs; intro a w17 B13 hf hMs hB hk hC
    have hk0 := hk0.then hk (by intro i hi h; simp only [Is, Mem.names, List.map_cons, List.map_nil, List.mem_cons, List.not_mem_nil, or_false] at h; omega)
    clear hk
    clear hB
    have hM : MemOk [⟨B1, 42, [.int .i64 x0, .int .i64 y0, .int .i64 x1, .int .i64 y1]⟩, ⟨B1 + 1, 44, [.int .i64 0, .int .i64 0, .int .i64 0]⟩, ⟨B3, 81, [.int .i64 ((x0 + x1) / 2), .int .i64 ((y0 + y1) / 2)]⟩, ⟨B5, 44, [.int .i64 d, .int .i64 (colOf ((x0 + x1) / 2) d), .int .i64 0]⟩] w17 := hM0.merge (hMr.keep hC (by intro k hk h; simp only [Is, Mem.names, List.map_cons, List.map_nil, List.mem_cons, List.not_mem_nil, or_false] at hk h; omega)) hMs rfl (by intro b hb; simp only [List.mem_cons, List.not_mem_nil, or_false] at hb ⊢; first | (rcases hb with rfl | rfl <;> simp) | (rcases hb with rfl | rfl | rfl <;> simp) | (rcases hb with rfl | rfl | rfl | rfl <;> simp) | (rcases hb with rfl | rfl | rfl | rfl | rfl <;> simp) | (rcases hb with rfl | rfl | rfl | rfl | rfl | rfl <;> simp))
    clear hMr hC hkd hMs hnd
    show K15 _ _
    refine hK15 _ _ ?_
    refine wp_seq_k (fun K16 hK16 => ?_)
    refine sxdraw2 [] [B5] [(0, true), (1, true), (2, true), (3, true), (4, true), (7, true), (5, false), (6, true), (8, true)] [(9, true), (10, false)] [0, 1, 2, 3, 4, 5, 6, 7, 8] (by kernel_rfl) (by kernel_rfl) (by as_aux_lemma => kernel_rfl) rfl (by as_aux_lemma => kernel_rfl) (by kernel_rfl) (by as_aux_lemma => kernel_rfl) (by kernel_rfl) ?_
    replace hM := hM.drew; replace hk0 := hk0.drew
    have hkd := hk0
    have hC : Keep (Is []) w17.drew w17.drew := Keep.refl _ _
    have hM0 := hM
    have hMr := hM
    refine sc0 hf hMr (by intro k _ h; cases h) hC [72, 69, 67, 2, 6] [{}, { os := [.ld 2 1] }, { hint := some (.int .i64 (((y0 + y1) / 2) + 2097152)) }, {}, { os := [.ld 3 0] }, {}] (env' := [(72, .val (.int .i64 ((2 ^ d.toNat) - 1))), (69, .val (.int .i64 d)), (67, .val (.int .i64 (((y0 + y1) / 2) + 2097152))), (2, .val (.pointer (some ⟨B1 + 1, 0, none⟩))), (6, .val (.pointer (some ⟨B5, 0, none⟩)))]) (ob := [Ad B3 1, (.int .i64 (IntKind.i64.wrap (((y0 + y1) / 2) + 2097152)) : Value) = (.int .i64 (((y0 + y1) / 2) + 2097152) : Value), Ad B5 0]) (by as_aux_lemma => kernel_rfl) rfl (Ac (ad _ _) (Ac (wr (by omega)) (Ao (ad _ _)))) ?_
    clear hf; intro a hf
    have hM := MemOk.nil w17.drew
    refine sccall rfl hf rfl rfl rfl rfl (g := 37) (vs := [.int .i64 d]) (ob := []) (by as_aux_lemma => kernel_rfl) An enters37 (side_any d w17.drew  (by omega)) (by rintro _ _ ⟨rfl, hk⟩; exact hC.trans hk.nn) ?_
    clear hf; rintro _ w18 a ⟨rfl, hk⟩ hf
    have hM := hM.keepNn hk
    have hC := hC.trans hk.nn
    have hk0 := hk0.trans hk.nn
    clear hk
    refine sc0 hf hMr (by intro k _ h; cases h) hC [73, 2, 6] [{ sp := true, hint := some (.int .i64 (((y0 + y1) / 2 + 2097152) / side d)) }, { hint := some (.int .i64 (colOf ((y0 + y1) / 2) d)) }] (env' := [(73, .val (.int .i64 (colOf ((y0 + y1) / 2) d))), (2, .val (.pointer (some ⟨B1 + 1, 0, none⟩))), (6, .val (.pointer (some ⟨B5, 0, none⟩)))]) (ob := [(side d) ≠ 0, (.int .i64 (IntKind.i64.wrap (Int.tdiv (((y0 + y1) / 2) + 2097152) (side d))) : Value) = (.int .i64 (((y0 + y1) / 2 + 2097152) / side d) : Value), (.int .i64 (if (2 ^ d.toNat) - 1 < ((y0 + y1) / 2 + 2097152) / side d then (2 ^ d.toNat) - 1 else ((y0 + y1) / 2 + 2097152) / side d) : Value) = (.int .i64 (colOf ((y0 + y1) / 2) d) : Value)]) (by as_aux_lemma => kernel_rfl) rfl (Ac (by omega) (Ac (quoN (by omega)) (Ao rfl))) ?_
    clear hf; intro a hf
    have hM : MemOk [⟨B1, 42, [.int .i64 x0, .int .i64 y0, .int .i64 x1, .int .i64 y1]⟩, ⟨B1 + 1, 44, [.int .i64 0, .int .i64 0, .int .i64 0]⟩, ⟨B3, 81, [.int .i64 ((x0 + x1) / 2), .int .i64 ((y0 + y1) / 2)]⟩, ⟨B5, 44, [.int .i64 d, .int .i64 (colOf ((x0 + x1) / 2) d), .int .i64 0]⟩] w18 := hMr.keep hC (by intro _ _ h; cases h)
    clear hMr hM0 hC hkd; refine sxnext ?_
    have hkd := hk0
    have hC : Keep (Is [B5]) w18 w18 := Keep.refl _ _
    have hM0 := hM
    have hMr : MemOk [⟨B1, 42, [.int .i64 x0, .int .i64 y0, .int .i64 x1, .int .i64 y1]⟩, ⟨B1 + 1, 44, [.int .i64 0, .int .i64 0, .int .i64 0]⟩, ⟨B3, 81, [.int .i64 ((x0 + x1) / 2), .int .i64 ((y0 + y1) / 2)]⟩] w18 := hM.sub (.cons_cons _ (.cons_cons _ (.cons_cons _ (.cons _ .slnil))))
    have hMs : MemOk [⟨B5, 44, [.int .i64 d, .int .i64 (colOf ((x0 + x1) / 2) d), .int .i64 0]⟩] w18 := hM.sub (.cons _ (.cons _ (.cons _ (.cons_cons _ .slnil))))
    have hnd := hM.nd; simp only [Mem.names, List.map_cons, List.map_nil, List.nodup_cons, List.mem_cons, List.not_mem_nil, or_false, not_or, not_false_eq_true, List.nodup_nil, and_true] at hnd
    refine sc0 hf hMr (by intro k hk h; simp only [Is, Mem.names, List.map_cons, List.map_nil, List.mem_cons, List.not_mem_nil, or_false] at hk h; omega) hC [74, 73, 2, 6] [{}] (env' := [(74, .val (.pointer (some ⟨B5, 2, none⟩))), (73, .val (.int .i64 (colOf ((y0 + y1) / 2) d))), (2, .val (.pointer (some ⟨B1 + 1, 0, none⟩))), (6, .val (.pointer (some ⟨B5, 0, none⟩)))]) (ob := []) (by as_aux_lemma => kernel_rfl) rfl An ?_
    clear hf; intro a hf
    refine sc1 rfl hf hMs (by intro k hk; exact hk) hC [2, 6] { os := [.st 0 2] } (env' := fun B14 => [(2, .val (.pointer (some ⟨B1 + 1, 0, none⟩))), (6, .val (.pointer (some ⟨B5, 0, none⟩)))]) (M' := fun B14 => [⟨B5, 44, [.int .i64 d, .int .i64 (colOf ((x0 + x1) / 2) d), .int .i64 (colOf ((y0 + y1) / 2) d)]⟩]) (ob := fun B14 => [Ad B5 2]) (fun B => by as_aux_lemma => kernel_rfl) (fun B14 => (Ao (ad _ _))) ?_
    clear hf hMs; intro a w19 B14 hf hMs hB hk hC
    have hk0 := hk0.then hk (by intro i hi h; simp only [Is, Mem.names, List.map_cons, List.map_nil, List.mem_cons, List.not_mem_nil, or_false] at h; omega)
    clear hk
    clear hB
    have hM : MemOk [⟨B1, 42, [.int .i64 x0, .int .i64 y0, .int .i64 x1, .int .i64 y1]⟩, ⟨B1 + 1, 44, [.int .i64 0, .int .i64 0, .int .i64 0]⟩, ⟨B3, 81, [.int .i64 ((x0 + x1) / 2), .int .i64 ((y0 + y1) / 2)]⟩, ⟨B5, 44, [.int .i64 d, .int .i64 (colOf ((x0 + x1) / 2) d), .int .i64 (colOf ((y0 + y1) / 2) d)]⟩] w19 := hM0.merge (hMr.keep hC (by intro k hk h; simp only [Is, Mem.names, List.map_cons, List.map_nil, List.mem_cons, List.not_mem_nil, or_false] at hk h; omega)) hMs rfl (by intro b hb; simp only [List.mem_cons, List.not_mem_nil, or_false] at hb ⊢; first | (rcases hb with rfl | rfl <;> simp) | (rcases hb with rfl | rfl | rfl <;> simp) | (rcases hb with rfl | rfl | rfl | rfl <;> simp) | (rcases hb with rfl | rfl | rfl | rfl | rfl <;> simp) | (rcases hb with rfl | rfl | rfl | rfl | rfl | rfl <;> simp))
    clear hMr hC hkd hMs hnd
    show K16 _ _
    refine hK16 _ _ ?_
    refine wp_seq_k (fun K17 hK17 => ?_)
    refine wp_region_lit ?_
    refine sr hf hM [3, 2] [{ os := [.ld 3 0, .ld 3 1, .ld 3 2] }, { os := [.st 1 0, .st 1 1, .st 1 2] }, {}] (env' := fun B15 => [(3, .val (.nilIface)), (2, .val (.pointer (some ⟨B1 + 1, 0, none⟩)))]) (M' := fun B15 => [⟨B1, 42, [.int .i64 x0, .int .i64 y0, .int .i64 x1, .int .i64 y1]⟩, ⟨B1 + 1, 44, [.int .i64 d, .int .i64 (colOf ((x0 + x1) / 2) d), .int .i64 (colOf ((y0 + y1) / 2) d)]⟩, ⟨B3, 81, [.int .i64 ((x0 + x1) / 2), .int .i64 ((y0 + y1) / 2)]⟩, ⟨B5, 44, [.int .i64 d, .int .i64 (colOf ((x0 + x1) / 2) d), .int .i64 (colOf ((y0 + y1) / 2) d)]⟩]) (ob := fun B15 => [Ad B5 0, Ad B5 1, Ad B5 2, Ad (B1 + 1) 0, Ad (B1 + 1) 1, Ad (B1 + 1) 2]) (fun B => by as_aux_lemma => kernel_rfl) (fun B15 => (Ac (ad _ _) (Ac (ad _ _) (Ac (ad _ _) (Ac (ad _ _) (Ac (ad _ _) (Ao (ad _ _)))))))) ?_
    clear hf hM; intro a w20 B15 hf hM hB hk
    have hbB15 : w.heap.size ≤ B15 := by have := hk0.size; omega
    have hk0 := hk0.then hk (by intro i hi h; simp only [Is, Mem.names, List.map_cons, List.map_nil, List.mem_cons, List.not_mem_nil, or_false] at h; omega)
    clear hk hB
    refine wpList_nil ?_
    refine hK17 _ _ ?_
    refine wp_ret ?_
    refine sxret (fn := Tryd.f16) hf hM [.ld 1 0, .ld 1 1, .ld 1 2] (l := [.agg #[.int .i64 d, .int .i64 (colOf ((x0 + x1) / 2) d), .int .i64 (colOf ((y0 + y1) / 2) d)], .nilIface]) (M' := [⟨B1, 42, [.int .i64 x0, .int .i64 y0, .int .i64 x1, .int .i64 y1]⟩, ⟨B1 + 1, 44, [.int .i64 d, .int .i64 (colOf ((x0 + x1) / 2) d), .int .i64 (colOf ((y0 + y1) / 2) d)]⟩, ⟨B3, 81, [.int .i64 ((x0 + x1) / 2), .int .i64 ((y0 + y1) / 2)]⟩, ⟨B5, 44, [.int .i64 d, .int .i64 (colOf ((x0 + x1) / 2) d), .int .i64 (colOf ((y0 + y1) / 2) d)]⟩]) (d' := false) (ob := [Ad (B1 + 1) 0, Ad (B1 + 1) 1, Ad (B1 + 1) 2]) (by kernel_rfl) (fun B => ⟨B, by as_aux_lemma => kernel_rfl⟩) rfl (Ac (ad _ _) (Ac (ad _ _) (Ao (ad _ _)))) ?_
    show (.tuple #[.agg #[.int .i64 d, .int .i64 (colOf ((x0 + x1) / 2) d), .int .i64 (colOf ((y0 + y1) / 2) d)], .nilIface] : Value) = .tuple #[.agg #[.int .i64 (depthOf (bsize x0 y0 x1 y1)), .int .i64 (colOf ((x0 + x1) / 2) (depthOf (bsize x0 y0 x1 y1))), .int .i64 (colOf ((y0 + y1) / 2) (depthOf (bsize x0 y0 x1 y1)))], .nilIface] ∧ Keep Nn w w20
    have hdd : depthOf (bsize x0 y0 x1 y1) = d := by
      by_cases h8 : d = 8
      · omega
      · have h := depthOf_iff hm (by omega : 0 ≤ d + 1 ∧ d + 1 ≤ 8)
        simp only [bsize] at *
        omega
    rw [hdd]
    exact ⟨rfl, hk0⟩
end Go.Proofs.YtkcpadkllhgmdaaDoor
