/- layer 6: boxes -/
import Derived.Test.YtifcgjnknikjkaaDoorBC4
namespace Go.Proofs.YtifcgjnknikjkaaDoor
open Go.Px
set_option linter.unusedVariables false
set_option linter.unusedSimpArgs false

def hasBox (l : List V3) : Bool := hasV l 0 && hasV l 1 && ofOk (findV l 0).a (findV l 0).b (findV l 1).a (findV l 1).b

set_option maxRecDepth 10000 in
set_option maxHeartbeats 1600000 in
theorem sbox_ok (E : Nat → Addr) (av : Option Addr) (l : List V3) (c : Nat) (w : World) (hn0 : (hasBox l) = true) (hav : Arr w 3 av l.length c (flat fV l)) (hbav : l.length ≤ 1000000) (hG : Errs [0, 3, 4] w 185 E) :
    Calls Tryd.prog 32 #[.slice av l.length c] w (Ret fun v w' => v = .tuple #[.agg #[iV ((findV l 0).a - (findV l 1).a), iV ((findV l 0).b - (findV l 1).b), iV ((findV l 0).a + (findV l 1).a), iV ((findV l 0).b + (findV l 1).b)], bV true] ∧ Keep Nn w w') := by
 refine sxenter (n := 44) (args := [.slice av l.length c]) Tryd.func32 rfl rfl rfl fun a hf => ?_
 replace hf : Fr 44 [(0, eS av l.length c)] a := hf
 have hM : MemOk [] w := MemOk.nil w
 have hk0 : Keep Nn w w := Keep.refl _ _
 have hh := hn0
 simp only [hasBox, Bool.and_eq_true] at hh
 obtain ⟨⟨hh1, hh2⟩, hh3⟩ := hh
 refine wp_seq_k (fun K1 hK1 => ?_)
 refine wp_region_lit ?_
 refine q1 hf hM [3, 2, 0] [{ os := [.nw] }, {}] (env' := fun B1 => [(3, eB false), (2, eP B1 0), (0, eS av l.length c)]) (M' := fun B1 => [⟨B1, 50, [iV 0, iV 0, iV 0, iV 0]⟩]) (ob := fun B1 => []) (fun B1 => An) ?_
 clear hf hM; intro a w1 B1 hf hM hB hk
 have hbB1 : w.heap.size ≤ B1 := by have := hk0.size; omega
 have hk0 := hk0.then hk (by intro i _ h; cases h)
 clear hk hB
 refine wpList_nil ?_
 refine hK1 _ _ ?_
 refine wp_seq_k (fun K2 hK2 => ?_)
 refine wp_region_lit ?_
 refine q0 hf hM [11, 3, 2, 0] [{}] (env' := [(11, eS av l.length c), (3, eB false), (2, eP B1 0), (0, eS av l.length c)]) (ob := []) An ?_
 clear hf; intro a hf
 refine sxcall hf rfl rfl rfl rfl (g := 42) (vs := [.slice av l.length c, iV 0]) (ob := []) (by as_aux_lemma => kernel_rfl) An enters42 (sfind av l c 0 w1  (hav.keepNn hk0) (by first | omega | (simp; omega) | (simp; done) | exact Nat.le_trans (byKinds_len _ _) (by omega) | decide)) ?_
 clear hf; rintro _ w2 a ⟨rfl, hk⟩ hf
 have hM := hM.keepNn hk
 have hk0 := hk0.trans hk.nn
 clear hk
 refine q1 hf hM [5, 4, 3, 2, 0] [{}, {}, {}, { os := [.nw] }, { os := [.st 1 0, .st 1 1, .st 1 2] }, {}] (env' := fun B3 => [(5, eB (hasV l 0)), (4, eP B3 0), (3, eB false), (2, eP B1 0), (0, eS av l.length c)]) (M' := fun B3 => [⟨B1, 50, [iV 0, iV 0, iV 0, iV 0]⟩, ⟨B3, 62, [iV (findV l 0).k, iV (findV l 0).a, iV (findV l 0).b]⟩]) (ob := fun B3 => [Ad B3 0, Ad B3 1, Ad B3 2]) (fun B3 => (Ac (ad _ _) (Ac (ad _ _) (Ao (ad _ _))))) ?_
 clear hf hM; intro a w3 B3 hf hM hB hk
 have hbB3 : w.heap.size ≤ B3 := by have := hk0.size; omega
 have hk0 := hk0.then hk (by intro i hi h; simp only [Is, Mem.names, List.map_cons, List.map_nil, List.mem_cons, List.not_mem_nil, or_false] at h; omega)
 clear hk hB
 refine wpList_nil ?_
 refine hK2 _ _ ?_
 refine wp_seq_k (fun K3 hK3 => ?_)
 refine wp_region_lit ?_
 refine q0 hf hM [16, 5, 4, 3, 2] [{}] (env' := [(16, eS av l.length c), (5, eB (hasV l 0)), (4, eP B3 0), (3, eB false), (2, eP B1 0)]) (ob := []) An ?_
 clear hf; intro a hf
 refine sxcall hf rfl rfl rfl rfl (g := 42) (vs := [.slice av l.length c, iV 1]) (ob := []) (by as_aux_lemma => kernel_rfl) An enters42 (sfind av l c 1 w3  (hav.keepNn hk0) (by first | omega | (simp; omega) | (simp; done) | exact Nat.le_trans (byKinds_len _ _) (by omega) | decide)) ?_
 clear hf; rintro _ w4 a ⟨rfl, hk⟩ hf
 have hM := hM.keepNn hk
 have hk0 := hk0.trans hk.nn
 clear hk
 refine q1 hf hM [7, 6, 5, 4, 3, 2] [{}, {}, {}, { os := [.nw] }, { os := [.st 2 0, .st 2 1, .st 2 2] }, {}] (env' := fun B5 => [(7, eB (hasV l 1)), (6, eP B5 0), (5, eB (hasV l 0)), (4, eP B3 0), (3, eB false), (2, eP B1 0)]) (M' := fun B5 => [⟨B1, 50, [iV 0, iV 0, iV 0, iV 0]⟩, ⟨B3, 62, [iV (findV l 0).k, iV (findV l 0).a, iV (findV l 0).b]⟩, ⟨B5, 62, [iV (findV l 1).k, iV (findV l 1).a, iV (findV l 1).b]⟩]) (ob := fun B5 => [Ad B5 0, Ad B5 1, Ad B5 2]) (fun B5 => (Ac (ad _ _) (Ac (ad _ _) (Ao (ad _ _))))) ?_
 clear hf hM; intro a w5 B5 hf hM hB hk
 have hbB5 : w.heap.size ≤ B5 := by have := hk0.size; omega
 have hk0 := hk0.then hk (by intro i hi h; simp only [Is, Mem.names, List.map_cons, List.map_nil, List.mem_cons, List.not_mem_nil, or_false] at h; omega)
 clear hk hB
 refine wpList_nil ?_
 refine hK3 _ _ ?_
 refine wp_seq_k (fun K4 hK4 => ?_)
 refine wp_seq_k (fun K5 hK5 => ?_)
 refine wp_region_lit ?_
 refine q0 hf hM [22, 7, 6, 4, 3, 2] [{}, {}, {}] (env' := [(22, eB (!(hasV l 0))), (7, eB (hasV l 1)), (6, eP B5 0), (4, eP B3 0), (3, eB false), (2, eP B1 0)]) (ob := []) An ?_
 clear hf; intro a hf
 have hf := hf.prune [22, 7, 6, 4, 3, 2]
 replace hf : Fr 44 [(22, eB (!(hasV l 0))), (7, eB (hasV l 1)), (6, eP B5 0), (4, eP B3 0), (3, eB false), (2, eP B1 0)] a := hf
 replace hf := hf.conv (env' := [(22, eB false), (7, eB (hasV l 1)), (6, eP B5 0), (4, eP B3 0), (3, eB false), (2, eP B1 0)]) (Ac (congrArg Value.bool (by simp [hh1] : (!(hasV l 0) : Bool) = false)) (Ac rfl (Ac rfl (Ac rfl (Ac rfl (Ao rfl))))))
 refine q0 hf hM [25, 6, 4, 3, 2] [{}, {}, {}] (env' := [(25, eB (!(hasV l 1))), (6, eP B5 0), (4, eP B3 0), (3, eB false), (2, eP B1 0)]) (ob := [false = false, false = false]) (Ac rfl (Ao rfl)) ?_
 clear hf; intro a hf
 refine wpList_nil ?_
 refine hK5 _ _ ?_
 refine sxcond hf (b := !(hasV l 1)) (by kernel_rfl) (fun h => absurd (h.symm.trans (by simp [hh2] : (!(hasV l 1) : Bool) = false)) (by simp)) (fun _ => ?_)
 refine wp_skip ?_
 refine hK4 _ _ ?_
 refine wp_seq_k (fun K6 hK6 => ?_)
 refine wp_region_lit ?_
 refine q0 hf hM [37, 32, 3, 2] [{}, { os := [.ld 1 1] }, {}, { os := [.ld 1 2] }, { sp := true }, {}, { os := [.ld 2 1] }, {}, { os := [.ld 2 2] }, { sp := true }] (env' := [(37, .val (.agg #[iV (findV l 1).a, iV (findV l 1).b])), (32, .val (.agg #[iV (findV l 0).a, iV (findV l 0).b])), (3, eB false), (2, eP B1 0)]) (ob := [Ad B3 1, Ad B3 2, Ad B5 1, Ad B5 2]) (Ac (ad _ _) (Ac (ad _ _) (Ac (ad _ _) (Ao (ad _ _))))) ?_
 clear hf; intro a hf
 refine sxcall hf rfl rfl rfl rfl (g := 71) (vs := [.agg #[iV (findV l 0).a, iV (findV l 0).b], .agg #[iV (findV l 1).a, iV (findV l 1).b]]) (ob := []) (by as_aux_lemma => kernel_rfl) An enters71 (plof_ok E (findV l 0).a (findV l 0).b (findV l 1).a (findV l 1).b w5 hh3 (hG.keep hk0 (fun _ h => h))) ?_
 clear hf; rintro _ w6 a ⟨rfl, hk⟩ hf
 have hM := hM.keepNn hk
 have hk0 := hk0.trans hk.nn
 clear hk
 refine q1 hf hM [9, 8, 3, 2] [{}, {}, {}, { os := [.nw] }, { os := [.st 3 0, .st 3 1, .st 3 2, .st 3 3] }, {}] (env' := fun B9 => [(9, .val (.nilIface)), (8, eP B9 0), (3, eB false), (2, eP B1 0)]) (M' := fun B9 => [⟨B1, 50, [iV 0, iV 0, iV 0, iV 0]⟩, ⟨B3, 62, [iV (findV l 0).k, iV (findV l 0).a, iV (findV l 0).b]⟩, ⟨B5, 62, [iV (findV l 1).k, iV (findV l 1).a, iV (findV l 1).b]⟩, ⟨B9, 50, [iV ((findV l 0).a - (findV l 1).a), iV ((findV l 0).b - (findV l 1).b), iV ((findV l 0).a + (findV l 1).a), iV ((findV l 0).b + (findV l 1).b)]⟩]) (ob := fun B9 => [Ad B9 0, Ad B9 1, Ad B9 2, Ad B9 3]) (fun B9 => (Ac (ad _ _) (Ac (ad _ _) (Ac (ad _ _) (Ao (ad _ _)))))) ?_
 clear hf hM; intro a w7 B9 hf hM hB hk
 have hbB9 : w.heap.size ≤ B9 := by have := hk0.size; omega
 have hk0 := hk0.then hk (by intro i hi h; simp only [Is, Mem.names, List.map_cons, List.map_nil, List.mem_cons, List.not_mem_nil, or_false] at h; omega)
 clear hk hB
 refine wpList_nil ?_
 refine hK6 _ _ ?_
 refine wp_seq_k (fun K7 hK7 => ?_)
 replace hM := hM.drew; replace hk0 := hk0.drew
 obtain ⟨C1, hC1d⟩ : ∃ C : World → Prop, C = fun w' => MemOk [⟨B3, 62, [iV (findV l 0).k, iV (findV l 0).a, iV (findV l 0).b]⟩, ⟨B5, 62, [iV (findV l 1).k, iV (findV l 1).a, iV (findV l 1).b]⟩, ⟨B9, 50, [iV ((findV l 0).a - (findV l 1).a), iV ((findV l 0).b - (findV l 1).b), iV ((findV l 0).a + (findV l 1).a), iV ((findV l 0).b + (findV l 1).b)]⟩] w' ∧ Keep Nn w w' ∧ True := ⟨_, rfl⟩
 have hC1i : ∀ w', (MemOk [⟨B3, 62, [iV (findV l 0).k, iV (findV l 0).a, iV (findV l 0).b]⟩, ⟨B5, 62, [iV (findV l 1).k, iV (findV l 1).a, iV (findV l 1).b]⟩, ⟨B9, 50, [iV ((findV l 0).a - (findV l 1).a), iV ((findV l 0).b - (findV l 1).b), iV ((findV l 0).a + (findV l 1).a), iV ((findV l 0).b + (findV l 1).b)]⟩] w' ∧ Keep Nn w w' ∧ True) → C1 w' := fun w' h => by rw [hC1d]; exact h
 have hC1e : ∀ w', C1 w' → (MemOk [⟨B3, 62, [iV (findV l 0).k, iV (findV l 0).a, iV (findV l 0).b]⟩, ⟨B5, 62, [iV (findV l 1).k, iV (findV l 1).a, iV (findV l 1).b]⟩, ⟨B9, 50, [iV ((findV l 0).a - (findV l 1).a), iV ((findV l 0).b - (findV l 1).b), iV ((findV l 0).a + (findV l 1).a), iV ((findV l 0).b + (findV l 1).b)]⟩] w' ∧ Keep Nn w w' ∧ True) := fun w' h => by rw [hC1d] at h; exact h
 refine sxdraw (C := C1) (.leaf [(0, true), (1, true), (2, true), (3, false), (4, true)]) (by kernel_rfl) (by kernel_rfl) (by as_aux_lemma => kernel_rfl) rfl (by as_aux_lemma => kernel_rfl) (by kernel_rfl) (hC1i _ ⟨hM.sub (.cons _ (.cons_cons _ (.cons_cons _ (.cons_cons _ .slnil)))), hk0, trivial⟩) ?_
 refine sxleaf ?_
 have hC := (hC1i _ ⟨hM.sub (.cons _ (.cons_cons _ (.cons_cons _ (.cons_cons _ .slnil)))), hk0, trivial⟩)
 refine qd hf hC (fun w' h => (hC1e w' h).1) [43, 41, 3, 2] [{ os := [.ld 2 0, .ld 2 1, .ld 2 2, .ld 2 3] }, {}, {}] (env' := [(43, eB true), (41, .val (.agg #[iV ((findV l 0).a - (findV l 1).a), iV ((findV l 0).b - (findV l 1).b), iV ((findV l 0).a + (findV l 1).a), iV ((findV l 0).b + (findV l 1).b)])), (3, eB false), (2, eP B1 0)]) (ob := [Ad B9 0, Ad B9 1, Ad B9 2, Ad B9 3]) (Ac (ad _ _) (Ac (ad _ _) (Ac (ad _ _) (Ao (ad _ _))))) ?_
 clear hf; intro a hf
 refine scstep rfl ?_
 have hMs : MemOk [⟨B1, 50, [iV 0, iV 0, iV 0, iV 0]⟩] w7.drew := hM.sub (.cons_cons _ (.cons _ (.cons _ (.cons _ .slnil))))
 refine q1 hf hMs [43, 3, 2] [{ os := [.st 0 0, .st 0 1, .st 0 2, .st 0 3] }] (env' := fun B10 => [(43, eB true), (3, eB false), (2, eP B1 0)]) (M' := fun B10 => [⟨B1, 50, [iV ((findV l 0).a - (findV l 1).a), iV ((findV l 0).b - (findV l 1).b), iV ((findV l 0).a + (findV l 1).a), iV ((findV l 0).b + (findV l 1).b)]⟩]) (ob := fun B10 => [Ad B1 0, Ad B1 1, Ad B1 2, Ad B1 3]) (fun B10 => (Ac (ad _ _) (Ac (ad _ _) (Ac (ad _ _) (Ao (ad _ _)))))) ?_
 clear hf hMs; intro a w8 B10 hf hMs hB hk; clear hB
 have hM : MemOk [⟨B1, 50, [iV ((findV l 0).a - (findV l 1).a), iV ((findV l 0).b - (findV l 1).b), iV ((findV l 0).a + (findV l 1).a), iV ((findV l 0).b + (findV l 1).b)]⟩, ⟨B3, 62, [iV (findV l 0).k, iV (findV l 0).a, iV (findV l 0).b]⟩, ⟨B5, 62, [iV (findV l 1).k, iV (findV l 1).a, iV (findV l 1).b]⟩, ⟨B9, 50, [iV ((findV l 0).a - (findV l 1).a), iV ((findV l 0).b - (findV l 1).b), iV ((findV l 0).a + (findV l 1).a), iV ((findV l 0).b + (findV l 1).b)]⟩] w8 := MemOk.upd (M1 := []) (M2 := [⟨B3, 62, [iV (findV l 0).k, iV (findV l 0).a, iV (findV l 0).b]⟩, ⟨B5, 62, [iV (findV l 1).k, iV (findV l 1).a, iV (findV l 1).b]⟩, ⟨B9, 50, [iV ((findV l 0).a - (findV l 1).a), iV ((findV l 0).b - (findV l 1).b), iV ((findV l 0).a + (findV l 1).a), iV ((findV l 0).b + (findV l 1).b)]⟩]) hM hk hMs rfl
 have hk0 := hk0.then hk (by intro i hi h; simp only [Is, Mem.names, List.map_cons, List.map_nil, List.mem_cons, List.not_mem_nil, or_false] at h; omega)
 clear hk hMs
 have hC := (hC1i _ ⟨hM.sub (.cons _ (.cons_cons _ (.cons_cons _ (.cons_cons _ .slnil)))), hk0, trivial⟩)
 refine scdone hC ?_
 refine qd hf hC (fun w' h => (hC1e w' h).1) [3, 2] [{}] (env' := [(3, eB true), (2, eP B1 0)]) (ob := []) An ?_
 clear hf; intro a hf
 clear hC
 show K7 _ _
 refine hK7 _ _ ?_
 refine wp_ret ?_
 refine qr (fn := Tryd.f32) hf hM [.ld 0 0, .ld 0 1, .ld 0 2, .ld 0 3] (l := [.agg #[iV ((findV l 0).a - (findV l 1).a), iV ((findV l 0).b - (findV l 1).b), iV ((findV l 0).a + (findV l 1).a), iV ((findV l 0).b + (findV l 1).b)], bV true]) (ob := [Ad B1 0, Ad B1 1, Ad B1 2, Ad B1 3]) (Ac (ad _ _) (Ac (ad _ _) (Ac (ad _ _) (Ao (ad _ _))))) ?_
 show (.tuple #[.agg #[iV ((findV l 0).a - (findV l 1).a), iV ((findV l 0).b - (findV l 1).b), iV ((findV l 0).a + (findV l 1).a), iV ((findV l 0).b + (findV l 1).b)], bV true] : Value) = .tuple #[.agg #[iV ((findV l 0).a - (findV l 1).a), iV ((findV l 0).b - (findV l 1).b), iV ((findV l 0).a + (findV l 1).a), iV ((findV l 0).b + (findV l 1).b)], bV true] ∧ Keep Nn w w8
 exact ⟨rfl, hk0⟩

set_option maxRecDepth 10000 in
set_option maxHeartbeats 1600000 in
theorem sbox_no (E : Nat → Addr) (av : Option Addr) (l : List V3) (c : Nat) (w : World) (hn0 : (hasBox l) = false) (hav : Arr w 3 av l.length c (flat fV l)) (hbav : l.length ≤ 1000000) (hG : Errs [0, 3, 4] w 185 E) :
    Calls Tryd.prog 32 #[.slice av l.length c] w (Ret fun v w' => v = .tuple #[.agg #[iV 0, iV 0, iV 0, iV 0], bV false] ∧ Keep Nn w w') := by
 refine sxenter (n := 44) (args := [.slice av l.length c]) Tryd.func32 rfl rfl rfl fun a hf => ?_
 replace hf : Fr 44 [(0, eS av l.length c)] a := hf
 have hM : MemOk [] w := MemOk.nil w
 have hk0 : Keep Nn w w := Keep.refl _ _
 refine wp_seq_k (fun K1 hK1 => ?_)
 refine wp_region_lit ?_
 refine q1 hf hM [3, 2, 0] [{ os := [.nw] }, {}] (env' := fun B1 => [(3, eB false), (2, eP B1 0), (0, eS av l.length c)]) (M' := fun B1 => [⟨B1, 50, [iV 0, iV 0, iV 0, iV 0]⟩]) (ob := fun B1 => []) (fun B1 => An) ?_
 clear hf hM; intro a w1 B1 hf hM hB hk
 have hbB1 : w.heap.size ≤ B1 := by have := hk0.size; omega
 have hk0 := hk0.then hk (by intro i _ h; cases h)
 clear hk hB
 refine wpList_nil ?_
 refine hK1 _ _ ?_
 refine wp_seq_k (fun K2 hK2 => ?_)
 refine wp_region_lit ?_
 refine q0 hf hM [11, 3, 2, 0] [{}] (env' := [(11, eS av l.length c), (3, eB false), (2, eP B1 0), (0, eS av l.length c)]) (ob := []) An ?_
 clear hf; intro a hf
 refine sxcall hf rfl rfl rfl rfl (g := 42) (vs := [.slice av l.length c, iV 0]) (ob := []) (by as_aux_lemma => kernel_rfl) An enters42 (sfind av l c 0 w1  (hav.keepNn hk0) (by first | omega | (simp; omega) | (simp; done) | exact Nat.le_trans (byKinds_len _ _) (by omega) | decide)) ?_
 clear hf; rintro _ w2 a ⟨rfl, hk⟩ hf
 have hM := hM.keepNn hk
 have hk0 := hk0.trans hk.nn
 clear hk
 refine q1 hf hM [5, 4, 3, 2, 0] [{}, {}, {}, { os := [.nw] }, { os := [.st 1 0, .st 1 1, .st 1 2] }, {}] (env' := fun B3 => [(5, eB (hasV l 0)), (4, eP B3 0), (3, eB false), (2, eP B1 0), (0, eS av l.length c)]) (M' := fun B3 => [⟨B1, 50, [iV 0, iV 0, iV 0, iV 0]⟩, ⟨B3, 62, [iV (findV l 0).k, iV (findV l 0).a, iV (findV l 0).b]⟩]) (ob := fun B3 => [Ad B3 0, Ad B3 1, Ad B3 2]) (fun B3 => (Ac (ad _ _) (Ac (ad _ _) (Ao (ad _ _))))) ?_
 clear hf hM; intro a w3 B3 hf hM hB hk
 have hbB3 : w.heap.size ≤ B3 := by have := hk0.size; omega
 have hk0 := hk0.then hk (by intro i hi h; simp only [Is, Mem.names, List.map_cons, List.map_nil, List.mem_cons, List.not_mem_nil, or_false] at h; omega)
 clear hk hB
 refine wpList_nil ?_
 refine hK2 _ _ ?_
 refine wp_seq_k (fun K3 hK3 => ?_)
 refine wp_region_lit ?_
 refine q0 hf hM [16, 5, 4, 3, 2] [{}] (env' := [(16, eS av l.length c), (5, eB (hasV l 0)), (4, eP B3 0), (3, eB false), (2, eP B1 0)]) (ob := []) An ?_
 clear hf; intro a hf
 refine sxcall hf rfl rfl rfl rfl (g := 42) (vs := [.slice av l.length c, iV 1]) (ob := []) (by as_aux_lemma => kernel_rfl) An enters42 (sfind av l c 1 w3  (hav.keepNn hk0) (by first | omega | (simp; omega) | (simp; done) | exact Nat.le_trans (byKinds_len _ _) (by omega) | decide)) ?_
 clear hf; rintro _ w4 a ⟨rfl, hk⟩ hf
 have hM := hM.keepNn hk
 have hk0 := hk0.trans hk.nn
 clear hk
 refine q1 hf hM [7, 6, 5, 4, 3, 2] [{}, {}, {}, { os := [.nw] }, { os := [.st 2 0, .st 2 1, .st 2 2] }, {}] (env' := fun B5 => [(7, eB (hasV l 1)), (6, eP B5 0), (5, eB (hasV l 0)), (4, eP B3 0), (3, eB false), (2, eP B1 0)]) (M' := fun B5 => [⟨B1, 50, [iV 0, iV 0, iV 0, iV 0]⟩, ⟨B3, 62, [iV (findV l 0).k, iV (findV l 0).a, iV (findV l 0).b]⟩, ⟨B5, 62, [iV (findV l 1).k, iV (findV l 1).a, iV (findV l 1).b]⟩]) (ob := fun B5 => [Ad B5 0, Ad B5 1, Ad B5 2]) (fun B5 => (Ac (ad _ _) (Ac (ad _ _) (Ao (ad _ _))))) ?_
 clear hf hM; intro a w5 B5 hf hM hB hk
 have hbB5 : w.heap.size ≤ B5 := by have := hk0.size; omega
 have hk0 := hk0.then hk (by intro i hi h; simp only [Is, Mem.names, List.map_cons, List.map_nil, List.mem_cons, List.not_mem_nil, or_false] at h; omega)
 clear hk hB
 refine wpList_nil ?_
 refine hK3 _ _ ?_
 refine wp_seq_k (fun K4 hK4 => ?_)
 refine wp_seq_k (fun K5 hK5 => ?_)
 refine wp_region_lit ?_
 refine q0 hf hM [25, 6, 4, 3, 2] [{}, {}, {}, { g := .sym }, { g := .sym }, { hint := some (bV ((!(hasV l 0)) || (!(hasV l 1)))) }] (env' := [(25, eB ((!(hasV l 0)) || (!(hasV l 1)))), (6, eP B5 0), (4, eP B3 0), (3, eB false), (2, eP B1 0)]) (ob := [((!(hasV l 0)) = false → (!(hasV l 0)) = (!(hasV l 0))), ((!(hasV l 0)) = false → (!(hasV l 0)) = (!(hasV l 0))), (bif !(hasV l 0) then (bV true : Value) else bV (!(hasV l 1))) = .bool ((!(hasV l 0)) || (!(hasV l 1)))]) (Ac (fun hgd => rfl) (Ac (fun _ => rfl) (Ao (pick_or _ _)))) ?_
 clear hf; intro a hf
 refine wpList_nil ?_
 refine hK5 _ _ ?_
 refine qc hf (b := ((!(hasV l 0)) || (!(hasV l 1)))) (fun hc1r => ?_) (fun hc1r => ?_)
 · have hc1 := hc1r
   try simp only [Bool.or_eq_true, Bool.and_eq_true, Bool.not_eq_true', Bool.not_eq_false', Bool.or_eq_false_iff, Bool.and_eq_false_iff, decide_eq_true_eq, decide_eq_false_iff_not, beq_iff_eq, bne_iff_ne, beq_eq_false_iff_ne, bne_eq_false_iff_eq, Bool.and_true, Bool.true_and, ne_eq] at hc1
   refine wp_seq_k (fun K6 hK6 => ?_)
   refine wp_region_lit ?_
   refine q1 hf hM [3, 2] [{ sp := true }, { os := [.st 0 0, .st 0 1, .st 0 2, .st 0 3] }, {}] (env' := fun B7 => [(3, eB false), (2, eP B1 0)]) (M' := fun B7 => [⟨B1, 50, [iV 0, iV 0, iV 0, iV 0]⟩, ⟨B3, 62, [iV (findV l 0).k, iV (findV l 0).a, iV (findV l 0).b]⟩, ⟨B5, 62, [iV (findV l 1).k, iV (findV l 1).a, iV (findV l 1).b]⟩]) (ob := fun B7 => [Ad B1 0, Ad B1 1, Ad B1 2, Ad B1 3]) (fun B7 => (Ac (ad _ _) (Ac (ad _ _) (Ac (ad _ _) (Ao (ad _ _)))))) ?_
   clear hf hM; intro a w6 B7 hf hM hB hk
   have hbB7 : w.heap.size ≤ B7 := by have := hk0.size; omega
   have hk0 := hk0.then hk (by intro i hi h; simp only [Is, Mem.names, List.map_cons, List.map_nil, List.mem_cons, List.not_mem_nil, or_false] at h; omega)
   clear hk hB
   refine wpList_nil ?_
   refine hK6 _ _ ?_
   refine wp_ret ?_
   refine qr (fn := Tryd.f32) hf hM [.ld 0 0, .ld 0 1, .ld 0 2, .ld 0 3] (l := [.agg #[iV 0, iV 0, iV 0, iV 0], bV false]) (ob := [Ad B1 0, Ad B1 1, Ad B1 2, Ad B1 3]) (Ac (ad _ _) (Ac (ad _ _) (Ac (ad _ _) (Ao (ad _ _))))) ?_
   show (.tuple #[.agg #[iV 0, iV 0, iV 0, iV 0], bV false] : Value) = .tuple #[.agg #[iV 0, iV 0, iV 0, iV 0], bV false] ∧ Keep Nn w w6
   exact ⟨rfl, hk0⟩
 · have hc1 := hc1r
   try simp only [Bool.or_eq_true, Bool.and_eq_true, Bool.not_eq_true', Bool.not_eq_false', Bool.or_eq_false_iff, Bool.and_eq_false_iff, decide_eq_true_eq, decide_eq_false_iff_not, beq_iff_eq, bne_iff_ne, beq_eq_false_iff_ne, bne_eq_false_iff_eq, Bool.and_true, Bool.true_and, ne_eq] at hc1
   refine wp_skip ?_
   refine hK4 _ _ ?_
   refine wp_seq_k (fun K7 hK7 => ?_)
   refine wp_region_lit ?_
   refine q0 hf hM [37, 32, 3, 2] [{}, { os := [.ld 1 1] }, {}, { os := [.ld 1 2] }, { sp := true }, {}, { os := [.ld 2 1] }, {}, { os := [.ld 2 2] }, { sp := true }] (env' := [(37, .val (.agg #[iV (findV l 1).a, iV (findV l 1).b])), (32, .val (.agg #[iV (findV l 0).a, iV (findV l 0).b])), (3, eB false), (2, eP B1 0)]) (ob := [Ad B3 1, Ad B3 2, Ad B5 1, Ad B5 2]) (Ac (ad _ _) (Ac (ad _ _) (Ac (ad _ _) (Ao (ad _ _))))) ?_
   clear hf; intro a hf
   rcases Bool.eq_false_or_eq_true (ofOk (findV l 0).a (findV l 0).b (findV l 1).a (findV l 1).b) with hs1r | hs1r
   · have hs1 := hs1r
     try simp only [Bool.or_eq_true, Bool.and_eq_true, Bool.not_eq_true', Bool.not_eq_false', Bool.or_eq_false_iff, Bool.and_eq_false_iff, decide_eq_true_eq, decide_eq_false_iff_not, beq_iff_eq, bne_iff_ne, beq_eq_false_iff_ne, bne_eq_false_iff_eq, Bool.and_true, Bool.true_and, ne_eq] at hs1
     refine sxcall hf rfl rfl rfl rfl (g := 71) (vs := [.agg #[iV (findV l 0).a, iV (findV l 0).b], .agg #[iV (findV l 1).a, iV (findV l 1).b]]) (ob := []) (by as_aux_lemma => kernel_rfl) An enters71 (plof_ok E (findV l 0).a (findV l 0).b (findV l 1).a (findV l 1).b w5 hs1r (hG.keep hk0 (fun _ h => h))) ?_
     clear hf; rintro _ w7 a ⟨rfl, hk⟩ hf
     have hM := hM.keepNn hk
     have hk0 := hk0.trans hk.nn
     clear hk
     refine q1 hf hM [9, 8, 3, 2] [{}, {}, {}, { os := [.nw] }, { os := [.st 3 0, .st 3 1, .st 3 2, .st 3 3] }, {}] (env' := fun B9 => [(9, .val (.nilIface)), (8, eP B9 0), (3, eB false), (2, eP B1 0)]) (M' := fun B9 => [⟨B1, 50, [iV 0, iV 0, iV 0, iV 0]⟩, ⟨B3, 62, [iV (findV l 0).k, iV (findV l 0).a, iV (findV l 0).b]⟩, ⟨B5, 62, [iV (findV l 1).k, iV (findV l 1).a, iV (findV l 1).b]⟩, ⟨B9, 50, [iV ((findV l 0).a - (findV l 1).a), iV ((findV l 0).b - (findV l 1).b), iV ((findV l 0).a + (findV l 1).a), iV ((findV l 0).b + (findV l 1).b)]⟩]) (ob := fun B9 => [Ad B9 0, Ad B9 1, Ad B9 2, Ad B9 3]) (fun B9 => (Ac (ad _ _) (Ac (ad _ _) (Ac (ad _ _) (Ao (ad _ _)))))) ?_
     clear hf hM; intro a w8 B9 hf hM hB hk
     have hbB9 : w.heap.size ≤ B9 := by have := hk0.size; omega
     have hk0 := hk0.then hk (by intro i hi h; simp only [Is, Mem.names, List.map_cons, List.map_nil, List.mem_cons, List.not_mem_nil, or_false] at h; omega)
     clear hk hB
     refine wpList_nil ?_
     refine hK7 _ _ ?_
     refine wp_seq_k (fun K8 hK8 => ?_)
     replace hM := hM.drew; replace hk0 := hk0.drew
     obtain ⟨C1, hC1d⟩ : ∃ C : World → Prop, C = fun w' => MemOk [⟨B3, 62, [iV (findV l 0).k, iV (findV l 0).a, iV (findV l 0).b]⟩, ⟨B5, 62, [iV (findV l 1).k, iV (findV l 1).a, iV (findV l 1).b]⟩, ⟨B9, 50, [iV ((findV l 0).a - (findV l 1).a), iV ((findV l 0).b - (findV l 1).b), iV ((findV l 0).a + (findV l 1).a), iV ((findV l 0).b + (findV l 1).b)]⟩] w' ∧ Keep Nn w w' ∧ True := ⟨_, rfl⟩
     have hC1i : ∀ w', (MemOk [⟨B3, 62, [iV (findV l 0).k, iV (findV l 0).a, iV (findV l 0).b]⟩, ⟨B5, 62, [iV (findV l 1).k, iV (findV l 1).a, iV (findV l 1).b]⟩, ⟨B9, 50, [iV ((findV l 0).a - (findV l 1).a), iV ((findV l 0).b - (findV l 1).b), iV ((findV l 0).a + (findV l 1).a), iV ((findV l 0).b + (findV l 1).b)]⟩] w' ∧ Keep Nn w w' ∧ True) → C1 w' := fun w' h => by rw [hC1d]; exact h
     have hC1e : ∀ w', C1 w' → (MemOk [⟨B3, 62, [iV (findV l 0).k, iV (findV l 0).a, iV (findV l 0).b]⟩, ⟨B5, 62, [iV (findV l 1).k, iV (findV l 1).a, iV (findV l 1).b]⟩, ⟨B9, 50, [iV ((findV l 0).a - (findV l 1).a), iV ((findV l 0).b - (findV l 1).b), iV ((findV l 0).a + (findV l 1).a), iV ((findV l 0).b + (findV l 1).b)]⟩] w' ∧ Keep Nn w w' ∧ True) := fun w' h => by rw [hC1d] at h; exact h
     refine sxdraw (C := C1) (.leaf [(0, true), (1, true), (2, true), (3, false), (4, true)]) (by kernel_rfl) (by kernel_rfl) (by as_aux_lemma => kernel_rfl) rfl (by as_aux_lemma => kernel_rfl) (by kernel_rfl) (hC1i _ ⟨hM.sub (.cons _ (.cons_cons _ (.cons_cons _ (.cons_cons _ .slnil)))), hk0, trivial⟩) ?_
     refine sxleaf ?_
     have hC := (hC1i _ ⟨hM.sub (.cons _ (.cons_cons _ (.cons_cons _ (.cons_cons _ .slnil)))), hk0, trivial⟩)
     refine qd hf hC (fun w' h => (hC1e w' h).1) [43, 41, 3, 2] [{ os := [.ld 2 0, .ld 2 1, .ld 2 2, .ld 2 3] }, {}, {}] (env' := [(43, eB true), (41, .val (.agg #[iV ((findV l 0).a - (findV l 1).a), iV ((findV l 0).b - (findV l 1).b), iV ((findV l 0).a + (findV l 1).a), iV ((findV l 0).b + (findV l 1).b)])), (3, eB false), (2, eP B1 0)]) (ob := [Ad B9 0, Ad B9 1, Ad B9 2, Ad B9 3]) (Ac (ad _ _) (Ac (ad _ _) (Ac (ad _ _) (Ao (ad _ _))))) ?_
     clear hf; intro a hf
     refine scstep rfl ?_
     have hMs : MemOk [⟨B1, 50, [iV 0, iV 0, iV 0, iV 0]⟩] w8.drew := hM.sub (.cons_cons _ (.cons _ (.cons _ (.cons _ .slnil))))
     refine q1 hf hMs [43, 3, 2] [{ os := [.st 0 0, .st 0 1, .st 0 2, .st 0 3] }] (env' := fun B10 => [(43, eB true), (3, eB false), (2, eP B1 0)]) (M' := fun B10 => [⟨B1, 50, [iV ((findV l 0).a - (findV l 1).a), iV ((findV l 0).b - (findV l 1).b), iV ((findV l 0).a + (findV l 1).a), iV ((findV l 0).b + (findV l 1).b)]⟩]) (ob := fun B10 => [Ad B1 0, Ad B1 1, Ad B1 2, Ad B1 3]) (fun B10 => (Ac (ad _ _) (Ac (ad _ _) (Ac (ad _ _) (Ao (ad _ _)))))) ?_
     clear hf hMs; intro a w9 B10 hf hMs hB hk; clear hB
     have hM : MemOk [⟨B1, 50, [iV ((findV l 0).a - (findV l 1).a), iV ((findV l 0).b - (findV l 1).b), iV ((findV l 0).a + (findV l 1).a), iV ((findV l 0).b + (findV l 1).b)]⟩, ⟨B3, 62, [iV (findV l 0).k, iV (findV l 0).a, iV (findV l 0).b]⟩, ⟨B5, 62, [iV (findV l 1).k, iV (findV l 1).a, iV (findV l 1).b]⟩, ⟨B9, 50, [iV ((findV l 0).a - (findV l 1).a), iV ((findV l 0).b - (findV l 1).b), iV ((findV l 0).a + (findV l 1).a), iV ((findV l 0).b + (findV l 1).b)]⟩] w9 := MemOk.upd (M1 := []) (M2 := [⟨B3, 62, [iV (findV l 0).k, iV (findV l 0).a, iV (findV l 0).b]⟩, ⟨B5, 62, [iV (findV l 1).k, iV (findV l 1).a, iV (findV l 1).b]⟩, ⟨B9, 50, [iV ((findV l 0).a - (findV l 1).a), iV ((findV l 0).b - (findV l 1).b), iV ((findV l 0).a + (findV l 1).a), iV ((findV l 0).b + (findV l 1).b)]⟩]) hM hk hMs rfl
     have hk0 := hk0.then hk (by intro i hi h; simp only [Is, Mem.names, List.map_cons, List.map_nil, List.mem_cons, List.not_mem_nil, or_false] at h; omega)
     clear hk hMs
     have hC := (hC1i _ ⟨hM.sub (.cons _ (.cons_cons _ (.cons_cons _ (.cons_cons _ .slnil)))), hk0, trivial⟩)
     refine scdone hC ?_
     refine qd hf hC (fun w' h => (hC1e w' h).1) [3, 2] [{}] (env' := [(3, eB true), (2, eP B1 0)]) (ob := []) An ?_
     clear hf; intro a hf
     clear hC
     show K8 _ _
     refine hK8 _ _ ?_
     refine wp_ret ?_
     refine qr (fn := Tryd.f32) hf hM [.ld 0 0, .ld 0 1, .ld 0 2, .ld 0 3] (l := [.agg #[iV ((findV l 0).a - (findV l 1).a), iV ((findV l 0).b - (findV l 1).b), iV ((findV l 0).a + (findV l 1).a), iV ((findV l 0).b + (findV l 1).b)], bV true]) (ob := [Ad B1 0, Ad B1 1, Ad B1 2, Ad B1 3]) (Ac (ad _ _) (Ac (ad _ _) (Ac (ad _ _) (Ao (ad _ _))))) ?_
     show (.tuple #[.agg #[iV ((findV l 0).a - (findV l 1).a), iV ((findV l 0).b - (findV l 1).b), iV ((findV l 0).a + (findV l 1).a), iV ((findV l 0).b + (findV l 1).b)], bV true] : Value) = .tuple #[.agg #[iV 0, iV 0, iV 0, iV 0], bV false] ∧ Keep Nn w w9
     exfalso
     have hh := hn0
     simp only [hasBox] at hh
     try simp only [hc1, Bool.and_true, Bool.true_and] at hh
     try simp only [hs1, Bool.and_true, Bool.true_and] at hh
     simp_all
   · have hs1 := hs1r
     try simp only [Bool.or_eq_true, Bool.and_eq_true, Bool.not_eq_true', Bool.not_eq_false', Bool.or_eq_false_iff, Bool.and_eq_false_iff, decide_eq_true_eq, decide_eq_false_iff_not, beq_iff_eq, bne_iff_ne, beq_eq_false_iff_ne, bne_eq_false_iff_eq, Bool.and_true, Bool.true_and, ne_eq] at hs1
     refine sxcall hf rfl rfl rfl rfl (g := 71) (vs := [.agg #[iV (findV l 0).a, iV (findV l 0).b], .agg #[iV (findV l 1).a, iV (findV l 1).b]]) (ob := []) (by as_aux_lemma => kernel_rfl) An enters71 (plof_no E (findV l 0).a (findV l 0).b (findV l 1).a (findV l 1).b w5 hs1r (hG.keep hk0 (fun _ h => h))) ?_
     clear hf; rintro _ w10 a ⟨rfl, hk⟩ hf
     have hM := hM.keepNn hk
     have hk0 := hk0.trans hk.nn
     clear hk
     refine q1 hf hM [9, 8, 3, 2] [{}, {}, {}, { os := [.nw] }, { os := [.st 3 0, .st 3 1, .st 3 2, .st 3 3] }, {}] (env' := fun B11 => [(9, .val (.iface 185 (.pointer (some (E 0))))), (8, eP B11 0), (3, eB false), (2, eP B1 0)]) (M' := fun B11 => [⟨B1, 50, [iV 0, iV 0, iV 0, iV 0]⟩, ⟨B3, 62, [iV (findV l 0).k, iV (findV l 0).a, iV (findV l 0).b]⟩, ⟨B5, 62, [iV (findV l 1).k, iV (findV l 1).a, iV (findV l 1).b]⟩, ⟨B11, 50, [iV 0, iV 0, iV 0, iV 0]⟩]) (ob := fun B11 => [Ad B11 0, Ad B11 1, Ad B11 2, Ad B11 3]) (fun B11 => (Ac (ad _ _) (Ac (ad _ _) (Ac (ad _ _) (Ao (ad _ _)))))) ?_
     clear hf hM; intro a w11 B11 hf hM hB hk
     have hbB11 : w.heap.size ≤ B11 := by have := hk0.size; omega
     have hk0 := hk0.then hk (by intro i hi h; simp only [Is, Mem.names, List.map_cons, List.map_nil, List.mem_cons, List.not_mem_nil, or_false] at h; omega)
     clear hk hB
     refine wpList_nil ?_
     refine hK7 _ _ ?_
     refine wp_seq_k (fun K9 hK9 => ?_)
     replace hM := hM.drew; replace hk0 := hk0.drew
     obtain ⟨C2, hC2d⟩ : ∃ C : World → Prop, C = fun w' => MemOk [⟨B3, 62, [iV (findV l 0).k, iV (findV l 0).a, iV (findV l 0).b]⟩, ⟨B5, 62, [iV (findV l 1).k, iV (findV l 1).a, iV (findV l 1).b]⟩, ⟨B11, 50, [iV 0, iV 0, iV 0, iV 0]⟩] w' ∧ Keep Nn w w' ∧ True := ⟨_, rfl⟩
     have hC2i : ∀ w', (MemOk [⟨B3, 62, [iV (findV l 0).k, iV (findV l 0).a, iV (findV l 0).b]⟩, ⟨B5, 62, [iV (findV l 1).k, iV (findV l 1).a, iV (findV l 1).b]⟩, ⟨B11, 50, [iV 0, iV 0, iV 0, iV 0]⟩] w' ∧ Keep Nn w w' ∧ True) → C2 w' := fun w' h => by rw [hC2d]; exact h
     have hC2e : ∀ w', C2 w' → (MemOk [⟨B3, 62, [iV (findV l 0).k, iV (findV l 0).a, iV (findV l 0).b]⟩, ⟨B5, 62, [iV (findV l 1).k, iV (findV l 1).a, iV (findV l 1).b]⟩, ⟨B11, 50, [iV 0, iV 0, iV 0, iV 0]⟩] w' ∧ Keep Nn w w' ∧ True) := fun w' h => by rw [hC2d] at h; exact h
     refine sxdraw (C := C2) (.leaf [(0, true), (1, true), (2, true), (3, false), (4, true)]) (by kernel_rfl) (by kernel_rfl) (by as_aux_lemma => kernel_rfl) rfl (by as_aux_lemma => kernel_rfl) (by kernel_rfl) (hC2i _ ⟨hM.sub (.cons _ (.cons_cons _ (.cons_cons _ (.cons_cons _ .slnil)))), hk0, trivial⟩) ?_
     refine sxleaf ?_
     have hC := (hC2i _ ⟨hM.sub (.cons _ (.cons_cons _ (.cons_cons _ (.cons_cons _ .slnil)))), hk0, trivial⟩)
     refine qd hf hC (fun w' h => (hC2e w' h).1) [43, 41, 3, 2] [{ os := [.ld 2 0, .ld 2 1, .ld 2 2, .ld 2 3] }, {}, {}] (env' := [(43, eB false), (41, .val (.agg #[iV 0, iV 0, iV 0, iV 0])), (3, eB false), (2, eP B1 0)]) (ob := [Ad B11 0, Ad B11 1, Ad B11 2, Ad B11 3]) (Ac (ad _ _) (Ac (ad _ _) (Ac (ad _ _) (Ao (ad _ _))))) ?_
     clear hf; intro a hf
     refine scstep rfl ?_
     have hMs : MemOk [⟨B1, 50, [iV 0, iV 0, iV 0, iV 0]⟩] w11.drew := hM.sub (.cons_cons _ (.cons _ (.cons _ (.cons _ .slnil))))
     refine q1 hf hMs [43, 3, 2] [{ os := [.st 0 0, .st 0 1, .st 0 2, .st 0 3] }] (env' := fun B12 => [(43, eB false), (3, eB false), (2, eP B1 0)]) (M' := fun B12 => [⟨B1, 50, [iV 0, iV 0, iV 0, iV 0]⟩]) (ob := fun B12 => [Ad B1 0, Ad B1 1, Ad B1 2, Ad B1 3]) (fun B12 => (Ac (ad _ _) (Ac (ad _ _) (Ac (ad _ _) (Ao (ad _ _)))))) ?_
     clear hf hMs; intro a w12 B12 hf hMs hB hk; clear hB
     have hM : MemOk [⟨B1, 50, [iV 0, iV 0, iV 0, iV 0]⟩, ⟨B3, 62, [iV (findV l 0).k, iV (findV l 0).a, iV (findV l 0).b]⟩, ⟨B5, 62, [iV (findV l 1).k, iV (findV l 1).a, iV (findV l 1).b]⟩, ⟨B11, 50, [iV 0, iV 0, iV 0, iV 0]⟩] w12 := MemOk.upd (M1 := []) (M2 := [⟨B3, 62, [iV (findV l 0).k, iV (findV l 0).a, iV (findV l 0).b]⟩, ⟨B5, 62, [iV (findV l 1).k, iV (findV l 1).a, iV (findV l 1).b]⟩, ⟨B11, 50, [iV 0, iV 0, iV 0, iV 0]⟩]) hM hk hMs rfl
     have hk0 := hk0.then hk (by intro i hi h; simp only [Is, Mem.names, List.map_cons, List.map_nil, List.mem_cons, List.not_mem_nil, or_false] at h; omega)
     clear hk hMs
     have hC := (hC2i _ ⟨hM.sub (.cons _ (.cons_cons _ (.cons_cons _ (.cons_cons _ .slnil)))), hk0, trivial⟩)
     refine scdone hC ?_
     refine qd hf hC (fun w' h => (hC2e w' h).1) [3, 2] [{}] (env' := [(3, eB false), (2, eP B1 0)]) (ob := []) An ?_
     clear hf; intro a hf
     clear hC
     show K9 _ _
     refine hK9 _ _ ?_
     refine wp_ret ?_
     refine qr (fn := Tryd.f32) hf hM [.ld 0 0, .ld 0 1, .ld 0 2, .ld 0 3] (l := [.agg #[iV 0, iV 0, iV 0, iV 0], bV false]) (ob := [Ad B1 0, Ad B1 1, Ad B1 2, Ad B1 3]) (Ac (ad _ _) (Ac (ad _ _) (Ac (ad _ _) (Ao (ad _ _))))) ?_
     show (.tuple #[.agg #[iV 0, iV 0, iV 0, iV 0], bV false] : Value) = .tuple #[.agg #[iV 0, iV 0, iV 0, iV 0], bV false] ∧ Keep Nn w w12
     exact ⟨rfl, hk0⟩

set_option maxRecDepth 10000 in
set_option maxHeartbeats 1600000 in
theorem alive6 (E : Nat → Addr) (w : World) (hG : Errs [0, 3, 4] w 185 E) :
    Calls Tryd.prog 29 #[] w (Ret fun v w' => v = .bool true ∧ Keep Nn w w') := by
 refine sxenter (n := 30) (args := []) Tryd.func29 rfl rfl rfl fun a hf => ?_
 replace hf : Fr 30 [] a := hf
 have hM : MemOk [] w := MemOk.nil w
 have hk0 : Keep Nn w w := Keep.refl _ _
 have h5 : (firstBad ([⟨1, 1, 1⟩, ⟨0, 3, 4⟩] : List V3) == 5) = false := by decide
 have h1 : (firstBad ([⟨1, 1, 1⟩, ⟨0, 3, 4⟩] : List V3) == 1) = false := by decide
 have h0 : (firstBad ([⟨1, 1, 1⟩, ⟨0, 3, 4⟩] : List V3) == 0) = true := by decide
 have hd : noDup ([⟨1, 1, 1⟩, ⟨0, 3, 4⟩] : List V3) = true := by decide
 have hx : hasBox (byKinds ([⟨1, 1, 1⟩, ⟨0, 3, 4⟩] : List V3) 10) = true := by decide
 refine wp_seq_k (fun K1 hK1 => ?_)
 refine wp_region_lit ?_
 refine q0 hf hM [] [{}] (env' := []) (ob := []) An ?_
 clear hf; intro a hf
 refine wpList_nil ?_
 refine hK1 _ _ ?_
 refine wp_seq_k (fun K2 hK2 => ?_)
 refine wp_region_lit ?_
 refine q0 hf hM [7, 6] [{ sp := true }, { sp := true }] (env' := [(7, .val (.agg #[iV 0, iV 3, iV 4])), (6, .val (.agg #[iV 1, iV 1, iV 1]))]) (ob := []) An ?_
 clear hf; intro a hf
 refine sxbslice hf hM (t := 23) (e := 62) (len := 2) (cs := [iV 1, iV 1, iV 1, iV 0, iV 3, iV 4]) (ob := []) rfl rfl rfl rfl (by as_aux_lemma => kernel_rfl) An (by as_aux_lemma => kernel_rfl) ?_
 clear hf hM; intro a w1 B3 hf hM hB hk
 replace hM : MemOk [⟨B3, 62, [iV 1, iV 1, iV 1, iV 0, iV 3, iV 4]⟩] w1 := hM
 have hbB3 : w.heap.size ≤ B3 := by have := hk0.size; omega
 have hk0 := hk0.trans hk.nn
 clear hk hB
 refine sxcall hf rfl rfl rfl rfl (g := 40) (vs := [.slice (some ⟨B3, 0, none⟩) ([⟨1, 1, 1⟩, ⟨0, 3, 4⟩] : List V3).length 2]) (ob := []) (by as_aux_lemma => kernel_rfl) An enters40 (srow_ok E (some ⟨B3, 0, none⟩) ([⟨1, 1, 1⟩, ⟨0, 3, 4⟩] : List V3) 2 w1 h0 hd (Arr.of_memT (sz := 3) (f := fV) (L := ([⟨1, 1, 1⟩, ⟨0, 3, 4⟩] : List V3)) (l := ([⟨1, 1, 1⟩, ⟨0, 3, 4⟩] : List V3)) hM (List.Mem.head _) (fun _ => rfl) rfl rfl) (by first | omega | (simp; omega) | (simp; done) | exact Nat.le_trans (byKinds_len _ _) (by omega) | decide) (hG.keep hk0 (fun _ h => h))) ?_
 clear hf; rintro _ w2 a ⟨a'1, c'1, rfl, hk, hx1⟩ hf
 have hO : OwnOk w.heap.size [⟨B3, 62, [iV 1, iV 1, iV 1, iV 0, iV 3, iV 4]⟩] [] w1 := OwnOk.nil hM
 have hO := hO.more hM hk (by have := hk0.size; omega) hx1
 replace hO : OwnOk w.heap.size [⟨B3, 62, [iV 1, iV 1, iV 1, iV 0, iV 3, iV 4]⟩] [⟨62, 3, .slice a'1 ((byKinds ([⟨1, 1, 1⟩, ⟨0, 3, 4⟩] : List V3) 10).length) c'1, (byKinds ([⟨1, 1, 1⟩, ⟨0, 3, 4⟩] : List V3) 10).length, flat fV (byKinds ([⟨1, 1, 1⟩, ⟨0, 3, 4⟩] : List V3) 10)⟩] _ := hO
 have hM := hM.keepNn hk
 have hk0 := hk0.trans hk.nn
 clear hk
 refine q0 hf hM [2, 1] [{}, {}, {}, {}, {}] (env' := [(2, .val (.nilIface)), (1, eS a'1 ((byKinds ([⟨1, 1, 1⟩, ⟨0, 3, 4⟩] : List V3) 10).length) c'1)]) (ob := []) An ?_
 clear hf; intro a hf
 refine wpList_nil ?_
 refine hK2 _ _ ?_
 refine wp_seq_k (fun K3 hK3 => ?_)
 refine wp_seq_k (fun K4 hK4 => ?_)
 refine wp_region_lit ?_
 refine q0 hf hM [18, 1] [{}, {}, {}, {}, {}, {}, {}] (env' := [(18, eB ((((byKinds ([⟨1, 1, 1⟩, ⟨0, 3, 4⟩] : List V3) 10).length : Int) : Int) != 2)), (1, eS a'1 ((byKinds ([⟨1, 1, 1⟩, ⟨0, 3, 4⟩] : List V3) 10).length) c'1)]) (ob := [false = false, false = false, false = false]) (Ac rfl (Ac rfl (Ao rfl))) ?_
 clear hf; intro a hf
 refine wpList_nil ?_
 refine hK4 _ _ ?_
 refine qc hf (b := ((((byKinds ([⟨1, 1, 1⟩, ⟨0, 3, 4⟩] : List V3) 10).length : Int) : Int) != 2)) (fun hc1r => ?_) (fun hc1r => ?_)
 · have hc1 := (nN hc1r)
   exfalso; revert hc1; decide
 · have hc1 := (nM hc1r)
   refine wp_skip ?_
   refine hK3 _ _ ?_
   refine wp_seq_k (fun K5 hK5 => ?_)
   refine wp_region_lit ?_
   refine q0 hf hM [20] [{}] (env' := [(20, eS a'1 ((byKinds ([⟨1, 1, 1⟩, ⟨0, 3, 4⟩] : List V3) 10).length) c'1)]) (ob := []) An ?_
   clear hf; intro a hf
   refine sxcall hf rfl rfl rfl rfl (g := 32) (vs := [.slice a'1 ((byKinds ([⟨1, 1, 1⟩, ⟨0, 3, 4⟩] : List V3) 10).length) c'1]) (ob := []) (by as_aux_lemma => kernel_rfl) An enters32 (sbox_ok E a'1 (byKinds ([⟨1, 1, 1⟩, ⟨0, 3, 4⟩] : List V3) 10) c'1 w2 hx (own_arr (hO.own _ (List.Mem.head _))) (by first | omega | (simp; omega) | (simp; done) | exact Nat.le_trans (byKinds_len _ _) (by omega) | decide) (hG.keep hk0 (fun _ h => h))) ?_
   clear hf; rintro _ w3 a ⟨rfl, hk⟩ hf
   have hO := hO.keepNn hk
   have hM := hM.keepNn hk
   have hk0 := hk0.trans hk.nn
   clear hk
   refine q1 hf hM [4, 3] [{}, {}, {}, { os := [.nw] }, { os := [.st 1 0, .st 1 1, .st 1 2, .st 1 3] }, {}] (env' := fun B7 => [(4, eB true), (3, eP B7 0)]) (M' := fun B7 => [⟨B3, 62, [iV 1, iV 1, iV 1, iV 0, iV 3, iV 4]⟩, ⟨B7, 50, [iV ((findV (byKinds ([⟨1, 1, 1⟩, ⟨0, 3, 4⟩] : List V3) 10) 0).a - (findV (byKinds ([⟨1, 1, 1⟩, ⟨0, 3, 4⟩] : List V3) 10) 1).a), iV ((findV (byKinds ([⟨1, 1, 1⟩, ⟨0, 3, 4⟩] : List V3) 10) 0).b - (findV (byKinds ([⟨1, 1, 1⟩, ⟨0, 3, 4⟩] : List V3) 10) 1).b), iV ((findV (byKinds ([⟨1, 1, 1⟩, ⟨0, 3, 4⟩] : List V3) 10) 0).a + (findV (byKinds ([⟨1, 1, 1⟩, ⟨0, 3, 4⟩] : List V3) 10) 1).a), iV ((findV (byKinds ([⟨1, 1, 1⟩, ⟨0, 3, 4⟩] : List V3) 10) 0).b + (findV (byKinds ([⟨1, 1, 1⟩, ⟨0, 3, 4⟩] : List V3) 10) 1).b)]⟩]) (ob := fun B7 => [Ad B7 0, Ad B7 1, Ad B7 2, Ad B7 3]) (fun B7 => (Ac (ad _ _) (Ac (ad _ _) (Ac (ad _ _) (Ao (ad _ _)))))) ?_
   clear hf hM; intro a w4 B7 hf hM hB hk
   have hbB7 : w.heap.size ≤ B7 := by have := hk0.size; omega
   have hk0 := hk0.then hk (by intro i hi h; simp only [Is, Mem.names, List.map_cons, List.map_nil, List.mem_cons, List.not_mem_nil, or_false] at h; omega)
   have hO := hO.step hM hk (by intro i h; simp only [Mem.names, List.map_cons, List.map_nil, List.mem_cons, List.not_mem_nil, or_false, List.map_append, List.cons_append, List.nil_append] at h ⊢; omega)
   clear hk hB
   refine wpList_nil ?_
   refine hK5 _ _ ?_
   refine wp_seq_k (fun K6 hK6 => ?_)
   refine wp_region_lit ?_
   refine q0 hf hM [0] [{}, {}, { os := [.ld 1 0, .ld 1 1, .ld 1 2, .ld 1 3] }, { sp := true }, { sp := true, hint := some (bV (((((findV (byKinds ([⟨1, 1, 1⟩, ⟨0, 3, 4⟩] : List V3) 10) 0).a - (findV (byKinds ([⟨1, 1, 1⟩, ⟨0, 3, 4⟩] : List V3) 10) 1).a) : Int) == 2) && (((((findV (byKinds ([⟨1, 1, 1⟩, ⟨0, 3, 4⟩] : List V3) 10) 0).b - (findV (byKinds ([⟨1, 1, 1⟩, ⟨0, 3, 4⟩] : List V3) 10) 1).b) : Int) == 3) && (((((findV (byKinds ([⟨1, 1, 1⟩, ⟨0, 3, 4⟩] : List V3) 10) 0).a + (findV (byKinds ([⟨1, 1, 1⟩, ⟨0, 3, 4⟩] : List V3) 10) 1).a) : Int) == 4) && ((((findV (byKinds ([⟨1, 1, 1⟩, ⟨0, 3, 4⟩] : List V3) 10) 0).b + (findV (byKinds ([⟨1, 1, 1⟩, ⟨0, 3, 4⟩] : List V3) 10) 1).b) : Int) == 5))))) }, {}, {}] (env' := [(0, eB (((((findV (byKinds ([⟨1, 1, 1⟩, ⟨0, 3, 4⟩] : List V3) 10) 0).a - (findV (byKinds ([⟨1, 1, 1⟩, ⟨0, 3, 4⟩] : List V3) 10) 1).a) : Int) == 2) && (((((findV (byKinds ([⟨1, 1, 1⟩, ⟨0, 3, 4⟩] : List V3) 10) 0).b - (findV (byKinds ([⟨1, 1, 1⟩, ⟨0, 3, 4⟩] : List V3) 10) 1).b) : Int) == 3) && (((((findV (byKinds ([⟨1, 1, 1⟩, ⟨0, 3, 4⟩] : List V3) 10) 0).a + (findV (byKinds ([⟨1, 1, 1⟩, ⟨0, 3, 4⟩] : List V3) 10) 1).a) : Int) == 4) && ((((findV (byKinds ([⟨1, 1, 1⟩, ⟨0, 3, 4⟩] : List V3) 10) 0).b + (findV (byKinds ([⟨1, 1, 1⟩, ⟨0, 3, 4⟩] : List V3) 10) 1).b) : Int) == 5)))))]) (ob := [true = true, Ad B7 0, Ad B7 1, Ad B7 2, Ad B7 3, true = true, true = true, (bV (((((findV (byKinds ([⟨1, 1, 1⟩, ⟨0, 3, 4⟩] : List V3) 10) 0).a - (findV (byKinds ([⟨1, 1, 1⟩, ⟨0, 3, 4⟩] : List V3) 10) 1).a) : Int) == 2) && (((((findV (byKinds ([⟨1, 1, 1⟩, ⟨0, 3, 4⟩] : List V3) 10) 0).b - (findV (byKinds ([⟨1, 1, 1⟩, ⟨0, 3, 4⟩] : List V3) 10) 1).b) : Int) == 3) && (((((findV (byKinds ([⟨1, 1, 1⟩, ⟨0, 3, 4⟩] : List V3) 10) 0).a + (findV (byKinds ([⟨1, 1, 1⟩, ⟨0, 3, 4⟩] : List V3) 10) 1).a) : Int) == 4) && (((((findV (byKinds ([⟨1, 1, 1⟩, ⟨0, 3, 4⟩] : List V3) 10) 0).b + (findV (byKinds ([⟨1, 1, 1⟩, ⟨0, 3, 4⟩] : List V3) 10) 1).b) : Int) == 5) && true)))) : Value) = (bV (((((findV (byKinds ([⟨1, 1, 1⟩, ⟨0, 3, 4⟩] : List V3) 10) 0).a - (findV (byKinds ([⟨1, 1, 1⟩, ⟨0, 3, 4⟩] : List V3) 10) 1).a) : Int) == 2) && (((((findV (byKinds ([⟨1, 1, 1⟩, ⟨0, 3, 4⟩] : List V3) 10) 0).b - (findV (byKinds ([⟨1, 1, 1⟩, ⟨0, 3, 4⟩] : List V3) 10) 1).b) : Int) == 3) && (((((findV (byKinds ([⟨1, 1, 1⟩, ⟨0, 3, 4⟩] : List V3) 10) 0).a + (findV (byKinds ([⟨1, 1, 1⟩, ⟨0, 3, 4⟩] : List V3) 10) 1).a) : Int) == 4) && ((((findV (byKinds ([⟨1, 1, 1⟩, ⟨0, 3, 4⟩] : List V3) 10) 0).b + (findV (byKinds ([⟨1, 1, 1⟩, ⟨0, 3, 4⟩] : List V3) 10) 1).b) : Int) == 5)))) : Value)]) (Ac rfl (Ac (ad _ _) (Ac (ad _ _) (Ac (ad _ _) (Ac (ad _ _) (Ac rfl (Ac rfl (Ao (by simp))))))))) ?_
   clear hf; intro a hf
   refine wpList_nil ?_
   refine hK6 _ _ ?_
   refine wp_ret ?_
   refine qr (fn := Tryd.f29) hf hM [] (l := [bV (((((findV (byKinds ([⟨1, 1, 1⟩, ⟨0, 3, 4⟩] : List V3) 10) 0).a - (findV (byKinds ([⟨1, 1, 1⟩, ⟨0, 3, 4⟩] : List V3) 10) 1).a) : Int) == 2) && (((((findV (byKinds ([⟨1, 1, 1⟩, ⟨0, 3, 4⟩] : List V3) 10) 0).b - (findV (byKinds ([⟨1, 1, 1⟩, ⟨0, 3, 4⟩] : List V3) 10) 1).b) : Int) == 3) && (((((findV (byKinds ([⟨1, 1, 1⟩, ⟨0, 3, 4⟩] : List V3) 10) 0).a + (findV (byKinds ([⟨1, 1, 1⟩, ⟨0, 3, 4⟩] : List V3) 10) 1).a) : Int) == 4) && ((((findV (byKinds ([⟨1, 1, 1⟩, ⟨0, 3, 4⟩] : List V3) 10) 0).b + (findV (byKinds ([⟨1, 1, 1⟩, ⟨0, 3, 4⟩] : List V3) 10) 1).b) : Int) == 5))))]) (ob := []) An ?_
   show (bV (((((findV (byKinds ([⟨1, 1, 1⟩, ⟨0, 3, 4⟩] : List V3) 10) 0).a - (findV (byKinds ([⟨1, 1, 1⟩, ⟨0, 3, 4⟩] : List V3) 10) 1).a) : Int) == 2) && (((((findV (byKinds ([⟨1, 1, 1⟩, ⟨0, 3, 4⟩] : List V3) 10) 0).b - (findV (byKinds ([⟨1, 1, 1⟩, ⟨0, 3, 4⟩] : List V3) 10) 1).b) : Int) == 3) && (((((findV (byKinds ([⟨1, 1, 1⟩, ⟨0, 3, 4⟩] : List V3) 10) 0).a + (findV (byKinds ([⟨1, 1, 1⟩, ⟨0, 3, 4⟩] : List V3) 10) 1).a) : Int) == 4) && ((((findV (byKinds ([⟨1, 1, 1⟩, ⟨0, 3, 4⟩] : List V3) 10) 0).b + (findV (byKinds ([⟨1, 1, 1⟩, ⟨0, 3, 4⟩] : List V3) 10) 1).b) : Int) == 5)))) : Value) = .bool true ∧ Keep Nn w w4
   exact ⟨congrArg Value.bool (by decide), hk0⟩
end Go.Proofs.YtifcgjnknikjkaaDoor
