/- layer 13: the law that all may be moved -/
import Derived.Test.YthofalkkdpjdlaaDoorN10
import Derived.Test.YthofalkkdpjdlaaDoorXp13f
namespace Go.Proofs.YthofalkkdpjdlaaDoor
open Go.Px
set_option linter.unusedVariables false
set_option linter.unusedSimpArgs false

set_option maxRecDepth 10000 in
set_option maxHeartbeats 1600000 in
theorem nearMoved_any (E : Nat → Addr) (av : Option Addr) (l : List B4) (c : Nat) (px py ux uy : Int) (w : World) (hG : Errs [1, 3, 0] w 161 E) (hav : Arr w 4 av l.length c (flat fB4 l)) :
    Calls Tryd.prog 5 #[.slice av l.length c, .agg #[iV px, iV py], .agg #[iV ux, iV uy]] w (Ret fun v w' => v = .bool true ∧ Keep Nn w w') := by
 refine sxenter (n := 146) (args := [.slice av l.length c, .agg #[iV px, iV py], .agg #[iV ux, iV uy]]) Tryd.func5 rfl rfl rfl fun a hf => ?_
 replace hf : Fr 146 [(0, eS av l.length c), (1, .val (.agg #[iV px, iV py])), (2, .val (.agg #[iV ux, iV uy]))] a := hf
 have hM : MemOk [] w := MemOk.nil w
 have hk0 : Keep Nn w w := Keep.refl _ _
 refine wp_seq_k (fun K1 hK1 => ?_)
 refine wp_region_lit ?_
 refine q1 hf hM [0] [{ os := [.nw] }, { os := [.nw] }, {}] (nw := fun B1 => [(5, eP (B1 + 1) 0), (4, eP B1 0)]) (M' := fun B1 => [⟨B1, 46, [iV px, iV py]⟩, ⟨B1 + 1, 46, [iV ux, iV uy]⟩]) (ob := fun B1 => []) (fun B1 => An) ?_
 clear hf hM; intro a w1 B1 hf hM hB hk
 have hbB1 : w.heap.size ≤ B1 := by have := hk0.size; omega
 have hk0 := hk0.then hk (by intro i _ h; cases h)
 clear hk hB
 refine wpList_nil ?_
 refine hK1 _ _ ?_
 refine wp_seq_k (fun K2 hK2 => ?_)
 refine wp_seq_k (fun K3 hK3 => ?_)
 refine wp_region_lit ?_
 refine sxcall hf rfl rfl rfl rfl (g := 18) (vs := []) (ob := []) (by as_aux_lemma => kernel_rfl) An enters18 (alive13 E w1  (hG.keep hk0 (fun _ h => h))) ?_
 clear hf; rintro _ w2 a ⟨rfl, hk⟩ hf
 have hM := hM.keepNn hk
 have hk0 := hk0.trans hk.nn
 clear hk
 refine q0 hf hM [5, 4, 0] [{}] (nw := [(20, eB false)]) An ?_
 clear hf; intro a hf
 refine wpList_nil ?_
 refine hK3 _ _ ?_
 refine sxcond hf (b := false) (by kernel_rfl) (fun h => by cases h) (fun _ => ?_)
 refine wp_skip ?_
 refine hK2 _ _ ?_
 refine wp_seq_k (fun K4 hK4 => ?_)
 refine wp_region_lit ?_
 refine q0 hf hM [5, 4, 0] [{}] (nw := [(22, eS av l.length c)]) An ?_
 clear hf; intro a hf
 rcases Bool.eq_false_or_eq_true (goodL l) with hs1r | hs1r
 · have hs1 := hs1r
   refine sxcall hf rfl rfl rfl rfl (g := 19) (vs := [.slice av l.length c]) (ob := []) (by as_aux_lemma => kernel_rfl) An enters19 (filled_ok E av l c w2 hs1r (hG.keep hk0 (fun _ h => h)) (hav.keepNn hk0)) ?_
   clear hf; rintro _ w3 a ⟨T1, Bl1, a'1, c'1, rfl, hk, hx1, hdb1⟩ hf
   have hO : OwnOk w.heap.size [⟨B1, 46, [iV px, iV py]⟩, ⟨B1 + 1, 46, [iV ux, iV uy]⟩] [] w2 := OwnOk.nil hM
   have hO := hO.moreB hM hk (by have := hk0.size; omega) hx1 hdb1
   replace hO : OwnOk w.heap.size [⟨B1, 46, [iV px, iV py]⟩, ⟨B1 + 1, 46, [iV ux, iV uy]⟩] [oAnd (oTree 72 68 T1 Bl1 (bsy l l.length)) (oS 85 6 (.slice a'1 (bsy l l.length).length c'1) (bsy l l.length).length (flat fBx (bsy l l.length)))] _ := hO
   have hM := hM.keepNn hk
   have hk0 := hk0.trans hk.nn
   have hO := hO.split
   clear hk
   refine q0 hf hM [5, 4, 0] [{}, {}, {}, {}, {}, {}, {}] (nw := [(9, eB true), (7, eP T1 0)]) An ?_
   clear hf; intro a hf
   refine wpList_nil ?_
   refine hK4 _ _ ?_
   refine wp_seq_k (fun K5 hK5 => ?_)
   refine wp_seq_k (fun K6 hK6 => ?_)
   have hgl := goodL_at hs1r; have hby := bsy_len l l.length
   refine wp_region_lit ?_
   refine q0 hf hM [7, 5, 4, 0] [{}, {}, {}, {}, { os := [.ld 1 0] }, {}, {}, {}, { g := .sym }, { g := .sym, os := [.ld 1 0] }, { g := .sym }, { hint := some (bV ((decide ((ux : Int) < (-1048576))) || (decide ((ux : Int) > 1048576)))) }, {}, { g := .sym }, { g := .sym, os := [.ld 1 1] }, { g := .sym }, { hint := some (bV (((decide ((ux : Int) < (-1048576))) || (decide ((ux : Int) > 1048576))) || (decide ((uy : Int) < (-1048576))))) }, {}, { g := .sym }, { g := .sym, os := [.ld 1 1] }, { g := .sym }, { hint := some (bV ((((decide ((ux : Int) < (-1048576))) || (decide ((ux : Int) > 1048576))) || (decide ((uy : Int) < (-1048576)))) || (decide ((uy : Int) > 1048576)))) }, {}, { g := .sym }, { g := .sym, os := [.ld 0 0] }, { g := .sym }, { hint := some (bV (((((decide ((ux : Int) < (-1048576))) || (decide ((ux : Int) > 1048576))) || (decide ((uy : Int) < (-1048576)))) || (decide ((uy : Int) > 1048576))) || (decide ((px : Int) < (-1048576))))) }, {}, { g := .sym }, { g := .sym, os := [.ld 0 0] }, { g := .sym }, { hint := some (bV ((((((decide ((ux : Int) < (-1048576))) || (decide ((ux : Int) > 1048576))) || (decide ((uy : Int) < (-1048576)))) || (decide ((uy : Int) > 1048576))) || (decide ((px : Int) < (-1048576)))) || (decide ((px : Int) > 1048576)))) }, {}, { g := .sym }, { g := .sym, os := [.ld 0 1] }, { g := .sym }, { hint := some (bV (((((((decide ((ux : Int) < (-1048576))) || (decide ((ux : Int) > 1048576))) || (decide ((uy : Int) < (-1048576)))) || (decide ((uy : Int) > 1048576))) || (decide ((px : Int) < (-1048576)))) || (decide ((px : Int) > 1048576))) || (decide ((py : Int) < (-1048576))))) }, {}, { g := .sym }, { g := .sym, os := [.ld 0 1] }, { g := .sym }, { hint := some (bV ((((((((decide ((ux : Int) < (-1048576))) || (decide ((ux : Int) > 1048576))) || (decide ((uy : Int) < (-1048576)))) || (decide ((uy : Int) > 1048576))) || (decide ((px : Int) < (-1048576)))) || (decide ((px : Int) > 1048576))) || (decide ((py : Int) < (-1048576)))) || (decide ((py : Int) > 1048576)))) }] (nw := [(68, eB ((((((((decide ((ux : Int) < (-1048576))) || (decide ((ux : Int) > 1048576))) || (decide ((uy : Int) < (-1048576)))) || (decide ((uy : Int) > 1048576))) || (decide ((px : Int) < (-1048576)))) || (decide ((px : Int) > 1048576))) || (decide ((py : Int) < (-1048576)))) || (decide ((py : Int) > 1048576))))]) (ob := [false = false, false = false, Ad (B1 + 1) 0, false = false, ((decide ((ux : Int) < (-1048576))) = false → (decide ((ux : Int) < (-1048576))) = (decide ((ux : Int) < (-1048576)))), ((decide ((ux : Int) < (-1048576))) = false → Ad (B1 + 1) 0), ((decide ((ux : Int) < (-1048576))) = false → (decide ((ux : Int) < (-1048576))) = (decide ((ux : Int) < (-1048576)))), ((decide ((ux : Int) < (-1048576))) = false → (decide ((ux : Int) < (-1048576))) = (decide ((ux : Int) < (-1048576)))), (bif (decide ((ux : Int) < (-1048576))) then (bV true : Value) else bV (decide ((ux : Int) > 1048576))) = .bool ((decide ((ux : Int) < (-1048576))) || (decide ((ux : Int) > 1048576))), (((decide ((ux : Int) < (-1048576))) || (decide ((ux : Int) > 1048576))) = false → ((decide ((ux : Int) < (-1048576))) || (decide ((ux : Int) > 1048576))) = ((decide ((ux : Int) < (-1048576))) || (decide ((ux : Int) > 1048576)))), (((decide ((ux : Int) < (-1048576))) || (decide ((ux : Int) > 1048576))) = false → Ad (B1 + 1) 1), (((decide ((ux : Int) < (-1048576))) || (decide ((ux : Int) > 1048576))) = false → ((decide ((ux : Int) < (-1048576))) || (decide ((ux : Int) > 1048576))) = ((decide ((ux : Int) < (-1048576))) || (decide ((ux : Int) > 1048576)))), (((decide ((ux : Int) < (-1048576))) || (decide ((ux : Int) > 1048576))) = false → ((decide ((ux : Int) < (-1048576))) || (decide ((ux : Int) > 1048576))) = ((decide ((ux : Int) < (-1048576))) || (decide ((ux : Int) > 1048576)))), (bif ((decide ((ux : Int) < (-1048576))) || (decide ((ux : Int) > 1048576))) then (bV true : Value) else bV (decide ((uy : Int) < (-1048576)))) = .bool (((decide ((ux : Int) < (-1048576))) || (decide ((ux : Int) > 1048576))) || (decide ((uy : Int) < (-1048576)))), ((((decide ((ux : Int) < (-1048576))) || (decide ((ux : Int) > 1048576))) || (decide ((uy : Int) < (-1048576)))) = false → (((decide ((ux : Int) < (-1048576))) || (decide ((ux : Int) > 1048576))) || (decide ((uy : Int) < (-1048576)))) = (((decide ((ux : Int) < (-1048576))) || (decide ((ux : Int) > 1048576))) || (decide ((uy : Int) < (-1048576))))), ((((decide ((ux : Int) < (-1048576))) || (decide ((ux : Int) > 1048576))) || (decide ((uy : Int) < (-1048576)))) = false → Ad (B1 + 1) 1), ((((decide ((ux : Int) < (-1048576))) || (decide ((ux : Int) > 1048576))) || (decide ((uy : Int) < (-1048576)))) = false → (((decide ((ux : Int) < (-1048576))) || (decide ((ux : Int) > 1048576))) || (decide ((uy : Int) < (-1048576)))) = (((decide ((ux : Int) < (-1048576))) || (decide ((ux : Int) > 1048576))) || (decide ((uy : Int) < (-1048576))))), ((((decide ((ux : Int) < (-1048576))) || (decide ((ux : Int) > 1048576))) || (decide ((uy : Int) < (-1048576)))) = false → (((decide ((ux : Int) < (-1048576))) || (decide ((ux : Int) > 1048576))) || (decide ((uy : Int) < (-1048576)))) = (((decide ((ux : Int) < (-1048576))) || (decide ((ux : Int) > 1048576))) || (decide ((uy : Int) < (-1048576))))), (bif (((decide ((ux : Int) < (-1048576))) || (decide ((ux : Int) > 1048576))) || (decide ((uy : Int) < (-1048576)))) then (bV true : Value) else bV (decide ((uy : Int) > 1048576))) = .bool ((((decide ((ux : Int) < (-1048576))) || (decide ((ux : Int) > 1048576))) || (decide ((uy : Int) < (-1048576)))) || (decide ((uy : Int) > 1048576))), (((((decide ((ux : Int) < (-1048576))) || (decide ((ux : Int) > 1048576))) || (decide ((uy : Int) < (-1048576)))) || (decide ((uy : Int) > 1048576))) = false → ((((decide ((ux : Int) < (-1048576))) || (decide ((ux : Int) > 1048576))) || (decide ((uy : Int) < (-1048576)))) || (decide ((uy : Int) > 1048576))) = ((((decide ((ux : Int) < (-1048576))) || (decide ((ux : Int) > 1048576))) || (decide ((uy : Int) < (-1048576)))) || (decide ((uy : Int) > 1048576)))), (((((decide ((ux : Int) < (-1048576))) || (decide ((ux : Int) > 1048576))) || (decide ((uy : Int) < (-1048576)))) || (decide ((uy : Int) > 1048576))) = false → Ad B1 0), (((((decide ((ux : Int) < (-1048576))) || (decide ((ux : Int) > 1048576))) || (decide ((uy : Int) < (-1048576)))) || (decide ((uy : Int) > 1048576))) = false → ((((decide ((ux : Int) < (-1048576))) || (decide ((ux : Int) > 1048576))) || (decide ((uy : Int) < (-1048576)))) || (decide ((uy : Int) > 1048576))) = ((((decide ((ux : Int) < (-1048576))) || (decide ((ux : Int) > 1048576))) || (decide ((uy : Int) < (-1048576)))) || (decide ((uy : Int) > 1048576)))), (((((decide ((ux : Int) < (-1048576))) || (decide ((ux : Int) > 1048576))) || (decide ((uy : Int) < (-1048576)))) || (decide ((uy : Int) > 1048576))) = false → ((((decide ((ux : Int) < (-1048576))) || (decide ((ux : Int) > 1048576))) || (decide ((uy : Int) < (-1048576)))) || (decide ((uy : Int) > 1048576))) = ((((decide ((ux : Int) < (-1048576))) || (decide ((ux : Int) > 1048576))) || (decide ((uy : Int) < (-1048576)))) || (decide ((uy : Int) > 1048576)))), (bif ((((decide ((ux : Int) < (-1048576))) || (decide ((ux : Int) > 1048576))) || (decide ((uy : Int) < (-1048576)))) || (decide ((uy : Int) > 1048576))) then (bV true : Value) else bV (decide ((px : Int) < (-1048576)))) = .bool (((((decide ((ux : Int) < (-1048576))) || (decide ((ux : Int) > 1048576))) || (decide ((uy : Int) < (-1048576)))) || (decide ((uy : Int) > 1048576))) || (decide ((px : Int) < (-1048576)))), ((((((decide ((ux : Int) < (-1048576))) || (decide ((ux : Int) > 1048576))) || (decide ((uy : Int) < (-1048576)))) || (decide ((uy : Int) > 1048576))) || (decide ((px : Int) < (-1048576)))) = false → (((((decide ((ux : Int) < (-1048576))) || (decide ((ux : Int) > 1048576))) || (decide ((uy : Int) < (-1048576)))) || (decide ((uy : Int) > 1048576))) || (decide ((px : Int) < (-1048576)))) = (((((decide ((ux : Int) < (-1048576))) || (decide ((ux : Int) > 1048576))) || (decide ((uy : Int) < (-1048576)))) || (decide ((uy : Int) > 1048576))) || (decide ((px : Int) < (-1048576))))), ((((((decide ((ux : Int) < (-1048576))) || (decide ((ux : Int) > 1048576))) || (decide ((uy : Int) < (-1048576)))) || (decide ((uy : Int) > 1048576))) || (decide ((px : Int) < (-1048576)))) = false → Ad B1 0), ((((((decide ((ux : Int) < (-1048576))) || (decide ((ux : Int) > 1048576))) || (decide ((uy : Int) < (-1048576)))) || (decide ((uy : Int) > 1048576))) || (decide ((px : Int) < (-1048576)))) = false → (((((decide ((ux : Int) < (-1048576))) || (decide ((ux : Int) > 1048576))) || (decide ((uy : Int) < (-1048576)))) || (decide ((uy : Int) > 1048576))) || (decide ((px : Int) < (-1048576)))) = (((((decide ((ux : Int) < (-1048576))) || (decide ((ux : Int) > 1048576))) || (decide ((uy : Int) < (-1048576)))) || (decide ((uy : Int) > 1048576))) || (decide ((px : Int) < (-1048576))))), ((((((decide ((ux : Int) < (-1048576))) || (decide ((ux : Int) > 1048576))) || (decide ((uy : Int) < (-1048576)))) || (decide ((uy : Int) > 1048576))) || (decide ((px : Int) < (-1048576)))) = false → (((((decide ((ux : Int) < (-1048576))) || (decide ((ux : Int) > 1048576))) || (decide ((uy : Int) < (-1048576)))) || (decide ((uy : Int) > 1048576))) || (decide ((px : Int) < (-1048576)))) = (((((decide ((ux : Int) < (-1048576))) || (decide ((ux : Int) > 1048576))) || (decide ((uy : Int) < (-1048576)))) || (decide ((uy : Int) > 1048576))) || (decide ((px : Int) < (-1048576))))), (bif (((((decide ((ux : Int) < (-1048576))) || (decide ((ux : Int) > 1048576))) || (decide ((uy : Int) < (-1048576)))) || (decide ((uy : Int) > 1048576))) || (decide ((px : Int) < (-1048576)))) then (bV true : Value) else bV (decide ((px : Int) > 1048576))) = .bool ((((((decide ((ux : Int) < (-1048576))) || (decide ((ux : Int) > 1048576))) || (decide ((uy : Int) < (-1048576)))) || (decide ((uy : Int) > 1048576))) || (decide ((px : Int) < (-1048576)))) || (decide ((px : Int) > 1048576))), (((((((decide ((ux : Int) < (-1048576))) || (decide ((ux : Int) > 1048576))) || (decide ((uy : Int) < (-1048576)))) || (decide ((uy : Int) > 1048576))) || (decide ((px : Int) < (-1048576)))) || (decide ((px : Int) > 1048576))) = false → ((((((decide ((ux : Int) < (-1048576))) || (decide ((ux : Int) > 1048576))) || (decide ((uy : Int) < (-1048576)))) || (decide ((uy : Int) > 1048576))) || (decide ((px : Int) < (-1048576)))) || (decide ((px : Int) > 1048576))) = ((((((decide ((ux : Int) < (-1048576))) || (decide ((ux : Int) > 1048576))) || (decide ((uy : Int) < (-1048576)))) || (decide ((uy : Int) > 1048576))) || (decide ((px : Int) < (-1048576)))) || (decide ((px : Int) > 1048576)))), (((((((decide ((ux : Int) < (-1048576))) || (decide ((ux : Int) > 1048576))) || (decide ((uy : Int) < (-1048576)))) || (decide ((uy : Int) > 1048576))) || (decide ((px : Int) < (-1048576)))) || (decide ((px : Int) > 1048576))) = false → Ad B1 1), (((((((decide ((ux : Int) < (-1048576))) || (decide ((ux : Int) > 1048576))) || (decide ((uy : Int) < (-1048576)))) || (decide ((uy : Int) > 1048576))) || (decide ((px : Int) < (-1048576)))) || (decide ((px : Int) > 1048576))) = false → ((((((decide ((ux : Int) < (-1048576))) || (decide ((ux : Int) > 1048576))) || (decide ((uy : Int) < (-1048576)))) || (decide ((uy : Int) > 1048576))) || (decide ((px : Int) < (-1048576)))) || (decide ((px : Int) > 1048576))) = ((((((decide ((ux : Int) < (-1048576))) || (decide ((ux : Int) > 1048576))) || (decide ((uy : Int) < (-1048576)))) || (decide ((uy : Int) > 1048576))) || (decide ((px : Int) < (-1048576)))) || (decide ((px : Int) > 1048576)))), (((((((decide ((ux : Int) < (-1048576))) || (decide ((ux : Int) > 1048576))) || (decide ((uy : Int) < (-1048576)))) || (decide ((uy : Int) > 1048576))) || (decide ((px : Int) < (-1048576)))) || (decide ((px : Int) > 1048576))) = false → ((((((decide ((ux : Int) < (-1048576))) || (decide ((ux : Int) > 1048576))) || (decide ((uy : Int) < (-1048576)))) || (decide ((uy : Int) > 1048576))) || (decide ((px : Int) < (-1048576)))) || (decide ((px : Int) > 1048576))) = ((((((decide ((ux : Int) < (-1048576))) || (decide ((ux : Int) > 1048576))) || (decide ((uy : Int) < (-1048576)))) || (decide ((uy : Int) > 1048576))) || (decide ((px : Int) < (-1048576)))) || (decide ((px : Int) > 1048576)))), (bif ((((((decide ((ux : Int) < (-1048576))) || (decide ((ux : Int) > 1048576))) || (decide ((uy : Int) < (-1048576)))) || (decide ((uy : Int) > 1048576))) || (decide ((px : Int) < (-1048576)))) || (decide ((px : Int) > 1048576))) then (bV true : Value) else bV (decide ((py : Int) < (-1048576)))) = .bool (((((((decide ((ux : Int) < (-1048576))) || (decide ((ux : Int) > 1048576))) || (decide ((uy : Int) < (-1048576)))) || (decide ((uy : Int) > 1048576))) || (decide ((px : Int) < (-1048576)))) || (decide ((px : Int) > 1048576))) || (decide ((py : Int) < (-1048576)))), ((((((((decide ((ux : Int) < (-1048576))) || (decide ((ux : Int) > 1048576))) || (decide ((uy : Int) < (-1048576)))) || (decide ((uy : Int) > 1048576))) || (decide ((px : Int) < (-1048576)))) || (decide ((px : Int) > 1048576))) || (decide ((py : Int) < (-1048576)))) = false → (((((((decide ((ux : Int) < (-1048576))) || (decide ((ux : Int) > 1048576))) || (decide ((uy : Int) < (-1048576)))) || (decide ((uy : Int) > 1048576))) || (decide ((px : Int) < (-1048576)))) || (decide ((px : Int) > 1048576))) || (decide ((py : Int) < (-1048576)))) = (((((((decide ((ux : Int) < (-1048576))) || (decide ((ux : Int) > 1048576))) || (decide ((uy : Int) < (-1048576)))) || (decide ((uy : Int) > 1048576))) || (decide ((px : Int) < (-1048576)))) || (decide ((px : Int) > 1048576))) || (decide ((py : Int) < (-1048576))))), ((((((((decide ((ux : Int) < (-1048576))) || (decide ((ux : Int) > 1048576))) || (decide ((uy : Int) < (-1048576)))) || (decide ((uy : Int) > 1048576))) || (decide ((px : Int) < (-1048576)))) || (decide ((px : Int) > 1048576))) || (decide ((py : Int) < (-1048576)))) = false → Ad B1 1), ((((((((decide ((ux : Int) < (-1048576))) || (decide ((ux : Int) > 1048576))) || (decide ((uy : Int) < (-1048576)))) || (decide ((uy : Int) > 1048576))) || (decide ((px : Int) < (-1048576)))) || (decide ((px : Int) > 1048576))) || (decide ((py : Int) < (-1048576)))) = false → (((((((decide ((ux : Int) < (-1048576))) || (decide ((ux : Int) > 1048576))) || (decide ((uy : Int) < (-1048576)))) || (decide ((uy : Int) > 1048576))) || (decide ((px : Int) < (-1048576)))) || (decide ((px : Int) > 1048576))) || (decide ((py : Int) < (-1048576)))) = (((((((decide ((ux : Int) < (-1048576))) || (decide ((ux : Int) > 1048576))) || (decide ((uy : Int) < (-1048576)))) || (decide ((uy : Int) > 1048576))) || (decide ((px : Int) < (-1048576)))) || (decide ((px : Int) > 1048576))) || (decide ((py : Int) < (-1048576))))), ((((((((decide ((ux : Int) < (-1048576))) || (decide ((ux : Int) > 1048576))) || (decide ((uy : Int) < (-1048576)))) || (decide ((uy : Int) > 1048576))) || (decide ((px : Int) < (-1048576)))) || (decide ((px : Int) > 1048576))) || (decide ((py : Int) < (-1048576)))) = false → (((((((decide ((ux : Int) < (-1048576))) || (decide ((ux : Int) > 1048576))) || (decide ((uy : Int) < (-1048576)))) || (decide ((uy : Int) > 1048576))) || (decide ((px : Int) < (-1048576)))) || (decide ((px : Int) > 1048576))) || (decide ((py : Int) < (-1048576)))) = (((((((decide ((ux : Int) < (-1048576))) || (decide ((ux : Int) > 1048576))) || (decide ((uy : Int) < (-1048576)))) || (decide ((uy : Int) > 1048576))) || (decide ((px : Int) < (-1048576)))) || (decide ((px : Int) > 1048576))) || (decide ((py : Int) < (-1048576))))), (bif (((((((decide ((ux : Int) < (-1048576))) || (decide ((ux : Int) > 1048576))) || (decide ((uy : Int) < (-1048576)))) || (decide ((uy : Int) > 1048576))) || (decide ((px : Int) < (-1048576)))) || (decide ((px : Int) > 1048576))) || (decide ((py : Int) < (-1048576)))) then (bV true : Value) else bV (decide ((py : Int) > 1048576))) = .bool ((((((((decide ((ux : Int) < (-1048576))) || (decide ((ux : Int) > 1048576))) || (decide ((uy : Int) < (-1048576)))) || (decide ((uy : Int) > 1048576))) || (decide ((px : Int) < (-1048576)))) || (decide ((px : Int) > 1048576))) || (decide ((py : Int) < (-1048576)))) || (decide ((py : Int) > 1048576)))]) (Ac rfl (Ac rfl (Ac (ad _ _) (Ac rfl (Ac (fun hgd => rfl) (Ac (fun hgd => ad _ _) (Ac (fun hgd => rfl) (Ac (fun _ => rfl) (Ac (pick_or _ _) (Ac (fun hgd => rfl) (Ac (fun hgd => ad _ _) (Ac (fun hgd => rfl) (Ac (fun _ => rfl) (Ac (pick_or _ _) (Ac (fun hgd => rfl) (Ac (fun hgd => ad _ _) (Ac (fun hgd => rfl) (Ac (fun _ => rfl) (Ac (pick_or _ _) (Ac (fun hgd => rfl) (Ac (fun hgd => ad _ _) (Ac (fun hgd => rfl) (Ac (fun _ => rfl) (Ac (pick_or _ _) (Ac (fun hgd => rfl) (Ac (fun hgd => ad _ _) (Ac (fun hgd => rfl) (Ac (fun _ => rfl) (Ac (pick_or _ _) (Ac (fun hgd => rfl) (Ac (fun hgd => ad _ _) (Ac (fun hgd => rfl) (Ac (fun _ => rfl) (Ac (pick_or _ _) (Ac (fun hgd => rfl) (Ac (fun hgd => ad _ _) (Ac (fun hgd => rfl) (Ac (fun _ => rfl) (Ao (pick_or _ _)))))))))))))))))))))))))))))))))))))))) ?_
   clear hf; intro a hf
   refine wpList_nil ?_
   refine hK6 _ _ ?_
   refine qc hf (b := ((((((((decide ((ux : Int) < (-1048576))) || (decide ((ux : Int) > 1048576))) || (decide ((uy : Int) < (-1048576)))) || (decide ((uy : Int) > 1048576))) || (decide ((px : Int) < (-1048576)))) || (decide ((px : Int) > 1048576))) || (decide ((py : Int) < (-1048576)))) || (decide ((py : Int) > 1048576)))) (fun hc2r => ?_) (fun hc2r => ?_)
   · have hc2 := hc2r
     try simp only [Bool.or_eq_true, Bool.and_eq_true, Bool.not_eq_true', Bool.not_eq_false', Bool.or_eq_false_iff, Bool.and_eq_false_iff, decide_eq_true_eq, decide_eq_false_iff_not, beq_iff_eq, bne_iff_ne, beq_eq_false_iff_ne, bne_eq_false_iff_eq, Bool.and_true, Bool.true_and, ne_eq] at hc2
     refine wp_seq_k (fun K7 hK7 => ?_)
     refine wp_region_lit ?_
     refine q0 hf hM [] [{}] (nw := [(6, eB true)]) An ?_
     clear hf; intro a hf
     refine wpList_nil ?_
     refine hK7 _ _ ?_
     refine wp_ret ?_
     refine qr (fn := Tryd.f5) hf hM [] (l := [bV true]) (ob := []) An ?_
     show (bV true : Value) = .bool true ∧ Keep Nn w w3
     exact ⟨rfl, hk0⟩
   · have hc2 := hc2r
     try simp only [Bool.or_eq_true, Bool.and_eq_true, Bool.not_eq_true', Bool.not_eq_false', Bool.or_eq_false_iff, Bool.and_eq_false_iff, decide_eq_true_eq, decide_eq_false_iff_not, beq_iff_eq, bne_iff_ne, beq_eq_false_iff_ne, bne_eq_false_iff_eq, Bool.and_true, Bool.true_and, ne_eq] at hc2
     refine wp_skip ?_
     refine hK5 _ _ ?_
     refine wp_seq_k (fun K8 hK8 => ?_)
     refine wp_region_lit ?_
     refine sxbslice hf hM (t := 22) (e := 32) (len := 0) (cs := []) (ob := []) rfl rfl rfl rfl (by as_aux_lemma => kernel_rfl) An (by as_aux_lemma => kernel_rfl) ?_
     clear hf hM; intro a w4 B7 hf hM hB hk
     replace hM : MemOk [⟨B1, 46, [iV px, iV py]⟩, ⟨B1 + 1, 46, [iV ux, iV uy]⟩, ⟨B7, 32, []⟩] w4 := hM
     have hbB7 : w.heap.size ≤ B7 := by have := hk0.size; omega
     have hk0 := hk0.trans hk.nn
     have hO := hO.step hM hk.nn (by intro i h; simp only [Mem.names, List.map_cons, List.map_nil, List.mem_cons, List.not_mem_nil, or_false, List.map_append, List.cons_append, List.nil_append] at h ⊢; omega)
     clear hk hB
     refine q0 hf hM [7, 5, 4, 0] [{}] (nw := [(10, eS (some ⟨B7, 0, none⟩) 0 0)]) An ?_
     clear hf; intro a hf
     refine wpList_nil ?_
     refine hK8 _ _ ?_
     refine wp_seq_k (fun K9 hK9 => ?_)
     refine wp_seq_k (fun K10 hK10 => ?_)
     refine wp_region_lit ?_
     refine q0 hf hM [10, 7, 5, 4, 0] [{}, {}, {}] (nw := [(72, eI 0), (71, eI (l.length : Int)), (70, eS av l.length c)]) An ?_
     clear hf; intro a hf
     refine wpList_nil ?_
     refine hK10 _ _ ?_
     refine wp_block ?_
     replace hO := OwnOk.took (M1 := [⟨B1, 46, [iV px, iV py]⟩, ⟨B1 + 1, 46, [iV ux, iV uy]⟩]) (M2 := []) (sz := 4) hO hM (n := 0) (c := 0) (by have := hk0.size; omega) (by decide) (by decide) rfl
     replace hM : MemOk [⟨B1, 46, [iV px, iV py]⟩, ⟨B1 + 1, 46, [iV ux, iV uy]⟩] w4 := hM.sub (.cons_cons _ (.cons_cons _ (.cons _ .slnil)))
     replace hO : OwnOk w.heap.size [⟨B1, 46, [iV px, iV py]⟩, ⟨B1 + 1, 46, [iV ux, iV uy]⟩] [oS 32 4 (.slice (some ⟨B7, 0, none⟩) 0 0) 0 (flat fB4 ([] : List B4)), oTree 72 68 T1 Bl1 (bsy l l.length), oS 85 6 (.slice a'1 (bsy l l.length).length c'1) (bsy l l.length).length (flat fBx (bsy l l.length))] w4 := hO
     have hf := (hf.prune [0, 4, 5, 7, 10, 70, 71, 72]).to (env' := [(0, eS av l.length c), (4, eP B1 0), (5, eP (B1 + 1) 0), (7, eP T1 0), (10, eS (some ⟨B7, 0, none⟩) 0 0), (70, eS av l.length c), (71, eI (l.length : Int)), (72, eI 0)]) (by kernel_rfl)
     replace hO : OwnOk w.heap.size [⟨B1, 46, [iV px, iV py]⟩, ⟨B1 + 1, 46, [iV ux, iV uy]⟩] [oS 32 4 (.slice (some ⟨B7, 0, none⟩) (((l.take (0 : Int).toNat).map (mvB ux uy)).length) 0) (((l.take (0 : Int).toNat).map (mvB ux uy)).length) (flat fB4 ((l.take (0 : Int).toNat).map (mvB ux uy))), oTree 72 68 T1 Bl1 (bsy l l.length), oS 85 6 (.slice a'1 (bsy l l.length).length c'1) (bsy l l.length).length (flat fBx (bsy l l.length))] w4 := by
      first | exact hO | (have e : ([oS 32 4 (.slice (some ⟨B7, 0, none⟩) 0 0) 0 (flat fB4 ([] : List B4)), oTree 72 68 T1 Bl1 (bsy l l.length), oS 85 6 (.slice a'1 (bsy l l.length).length c'1) (bsy l l.length).length (flat fBx (bsy l l.length))] : List Own) = [oS 32 4 (.slice (some ⟨B7, 0, none⟩) (((l.take (0 : Int).toNat).map (mvB ux uy)).length) 0) (((l.take (0 : Int).toNat).map (mvB ux uy)).length) (flat fB4 ((l.take (0 : Int).toNat).map (mvB ux uy))), oTree 72 68 T1 Bl1 (bsy l l.length), oS 85 6 (.slice a'1 (bsy l l.length).length c'1) (bsy l l.length).length (flat fBx (bsy l l.length))] := by rfl) <;> (rw [← e]; exact hO)
     refine sxloop (fun zm a w1 => ∃ (i : Int) (a10 : Option Addr) (c10 : Nat), zm = ((l.length : Int) - i).toNat ∧ Fr 146 [(0, eS av l.length c), (4, eP B1 0), (5, eP (B1 + 1) 0), (7, eP T1 0), (10, eS a10 (((l.take i.toNat).map (mvB ux uy)).length) c10), (70, eS av l.length c), (71, eI (l.length : Int)), (72, eI i)] a ∧ MemOk [⟨B1, 46, [iV px, iV py]⟩, ⟨B1 + 1, 46, [iV ux, iV uy]⟩] w1 ∧ Keep Nn w w1 ∧ OwnOk w.heap.size [⟨B1, 46, [iV px, iV py]⟩, ⟨B1 + 1, 46, [iV ux, iV uy]⟩] [oS 32 4 (.slice a10 (((l.take i.toNat).map (mvB ux uy)).length) c10) (((l.take i.toNat).map (mvB ux uy)).length) (flat fB4 ((l.take i.toNat).map (mvB ux uy))), oTree 72 68 T1 Bl1 (bsy l l.length), oS 85 6 (.slice a'1 (bsy l l.length).length c'1) (bsy l l.length).length (flat fBx (bsy l l.length))] w1 ∧ (0 ≤ i ∧ i ≤ (l.length : Int))) _ ⟨0, some ⟨B7, 0, none⟩, 0, rfl, hf.conv (Ac rfl (Ac rfl (Ac rfl (Ac rfl (Ac rfl (Ac rfl (Ac rfl (Ao rfl)))))))), hM, hk0, hO, (by omega)⟩ ?_
     clear hf hM hk0 hO
     rintro _ a w5 ⟨i, a10, c10, rfl, hf, hM, hk0, hO, hi⟩ L1 hL1
     have hml : ((l.take i.toNat).map (mvB ux uy)).length ≤ l.length := by rw [List.length_map, List.length_take]; omega
     refine wp_seq_k (fun K11 hK11 => ?_)
     refine wp_region_lit ?_
     refine q0 hf hM [0, 4, 5, 7, 10, 70, 71, 72] [{}] (nw := [(73, eB (decide ((i : Int) < (l.length : Int))))]) An ?_
     clear hf; intro a hf
     refine wpList_nil ?_
     refine hK11 _ _ ?_
     refine wp_seq_k (fun K12 hK12 => ?_)
     refine qc hf (b := (decide ((i : Int) < (l.length : Int)))) (fun hc3r => ?_) (fun hc3r => ?_)
     · have hc3 := (nT hc3r)
       refine wp_skip ?_
       refine hK12 _ _ ?_
       refine wp_seq_k (fun K13 hK13 => ?_)
       refine wp_block ?_
       refine wp_seq_k (fun K14 hK14 => ?_)
       have hbo := hgl.2 i.toNat (by omega)
       unfold okB at hbo
       rw [Bool.and_eq_true] at hbo
       have hbr := boxRight_iff.1 hbo.1
       refine wp_region_lit ?_
       refine q1 hf hM [0, 4, 5, 7, 10, 70, 71, 72] [{ sp := true }, { os := [.ex (iV (l.getD i.toNat ⟨0, 0, 0, 0⟩).x0), .ex (iV (l.getD i.toNat ⟨0, 0, 0, 0⟩).y0), .ex (iV (l.getD i.toNat ⟨0, 0, 0, 0⟩).x1), .ex (iV (l.getD i.toNat ⟨0, 0, 0, 0⟩).y1)] }, { os := [.nw] }, { os := [.st 2 0, .st 2 1, .st 2 2, .st 2 3] }] (nw := fun B11 => [(12, eP B11 0)]) (M' := fun B11 => [⟨B1, 46, [iV px, iV py]⟩, ⟨B1 + 1, 46, [iV ux, iV uy]⟩, ⟨B11, 32, [iV (l.getD i.toNat ⟨0, 0, 0, 0⟩).x0, iV (l.getD i.toNat ⟨0, 0, 0, 0⟩).y0, iV (l.getD i.toNat ⟨0, 0, 0, 0⟩).x1, iV (l.getD i.toNat ⟨0, 0, 0, 0⟩).y1]⟩]) (ob := fun B11 => [(0 : Int) ≤ i ∧ i < (l.length : Int), (av : Option Addr).isSome = true, w5.cell? (((sa av : Addr).add (i.toNat * 4)).add 0) = some (iV (l.getD i.toNat ⟨0, 0, 0, 0⟩).x0), w5.cell? (((sa av : Addr).add (i.toNat * 4)).add 1) = some (iV (l.getD i.toNat ⟨0, 0, 0, 0⟩).y0), w5.cell? (((sa av : Addr).add (i.toNat * 4)).add 2) = some (iV (l.getD i.toNat ⟨0, 0, 0, 0⟩).x1), w5.cell? (((sa av : Addr).add (i.toNat * 4)).add 3) = some (iV (l.getD i.toNat ⟨0, 0, 0, 0⟩).y1), Ad B11 0, Ad B11 1, Ad B11 2, Ad B11 3]) (fun B11 => (Ac (by first | omega | (simp; done)) (Ac ((hav.keepNn hk0).some_ (by first | omega | (simp; done))) (Ac ((hav.keepNn hk0).get (fun _ => rfl) (by first | omega | (simp; done)) rfl) (Ac ((hav.keepNn hk0).get (fun _ => rfl) (by first | omega | (simp; done)) rfl) (Ac ((hav.keepNn hk0).get (fun _ => rfl) (by first | omega | (simp; done)) rfl) (Ac ((hav.keepNn hk0).get (fun _ => rfl) (by first | omega | (simp; done)) rfl) (Ac (ad _ _) (Ac (ad _ _) (Ac (ad _ _) (Ao (ad _ _)))))))))))) ?_
       clear hf hM; intro a w6 B11 hf hM hB hk
       have hbB11 : w.heap.size ≤ B11 := by have := hk0.size; omega
       have hk0 := hk0.thenNew hk (by simp [Mem.names] <;> omega)
       have hO := hO.step hM hk (by intro i h; simp only [Mem.names, List.map_cons, List.map_nil, List.mem_cons, List.not_mem_nil, or_false, List.map_append, List.cons_append, List.nil_append] at h ⊢; omega)
       clear hk hB
       refine wpList_nil ?_
       refine hK14 _ _ ?_
       refine wp_region_lit ?_
       refine q0 hf hM [0, 4, 5, 7, 10, 70, 71, 72] [{}, {}, { os := [.ld 2 0] }, {}, { os := [.ld 1 0] }, { hint := some (iV ((l.getD i.toNat ⟨0, 0, 0, 0⟩).x0 + ux)) }, {}, { os := [.ld 2 1] }, {}, { os := [.ld 1 1] }, { hint := some (iV ((l.getD i.toNat ⟨0, 0, 0, 0⟩).y0 + uy)) }, {}, { os := [.ld 2 2] }, {}, { os := [.ld 1 0] }, { hint := some (iV ((l.getD i.toNat ⟨0, 0, 0, 0⟩).x1 + ux)) }, {}, { os := [.ld 2 3] }, {}, { os := [.ld 1 1] }, { hint := some (iV ((l.getD i.toNat ⟨0, 0, 0, 0⟩).y1 + uy)) }, { sp := true }] (nw := [(97, .val (.agg #[iV ((l.getD i.toNat ⟨0, 0, 0, 0⟩).x0 + ux), iV ((l.getD i.toNat ⟨0, 0, 0, 0⟩).y0 + uy), iV ((l.getD i.toNat ⟨0, 0, 0, 0⟩).x1 + ux), iV ((l.getD i.toNat ⟨0, 0, 0, 0⟩).y1 + uy)])), (76, eS a10 (((l.take i.toNat).map (mvB ux uy)).length) c10)]) (ob := [Ad B11 0, Ad (B1 + 1) 0, (iV (IntKind.i64.wrap ((l.getD i.toNat ⟨0, 0, 0, 0⟩).x0 + ux)) : Value) = (iV ((l.getD i.toNat ⟨0, 0, 0, 0⟩).x0 + ux) : Value), Ad B11 1, Ad (B1 + 1) 1, (iV (IntKind.i64.wrap ((l.getD i.toNat ⟨0, 0, 0, 0⟩).y0 + uy)) : Value) = (iV ((l.getD i.toNat ⟨0, 0, 0, 0⟩).y0 + uy) : Value), Ad B11 2, Ad (B1 + 1) 0, (iV (IntKind.i64.wrap ((l.getD i.toNat ⟨0, 0, 0, 0⟩).x1 + ux)) : Value) = (iV ((l.getD i.toNat ⟨0, 0, 0, 0⟩).x1 + ux) : Value), Ad B11 3, Ad (B1 + 1) 1, (iV (IntKind.i64.wrap ((l.getD i.toNat ⟨0, 0, 0, 0⟩).y1 + uy)) : Value) = (iV ((l.getD i.toNat ⟨0, 0, 0, 0⟩).y1 + uy) : Value)]) (Ac (ad _ _) (Ac (ad _ _) (Ac (wr (by omega)) (Ac (ad _ _) (Ac (ad _ _) (Ac (wr (by omega)) (Ac (ad _ _) (Ac (ad _ _) (Ac (wr (by omega)) (Ac (ad _ _) (Ac (ad _ _) (Ao (wr (by omega)))))))))))))) ?_
       clear hf; intro a hf
       refine sxbslice hf hM (t := 22) (e := 32) (len := 1) (cs := [iV ((l.getD i.toNat ⟨0, 0, 0, 0⟩).x0 + ux), iV ((l.getD i.toNat ⟨0, 0, 0, 0⟩).y0 + uy), iV ((l.getD i.toNat ⟨0, 0, 0, 0⟩).x1 + ux), iV ((l.getD i.toNat ⟨0, 0, 0, 0⟩).y1 + uy)]) (ob := []) rfl rfl rfl rfl (by as_aux_lemma => kernel_rfl) An (by as_aux_lemma => kernel_rfl) ?_
       clear hf hM; intro a w7 B13 hf hM hB hk
       replace hM : MemOk [⟨B1, 46, [iV px, iV py]⟩, ⟨B1 + 1, 46, [iV ux, iV uy]⟩, ⟨B11, 32, [iV (l.getD i.toNat ⟨0, 0, 0, 0⟩).x0, iV (l.getD i.toNat ⟨0, 0, 0, 0⟩).y0, iV (l.getD i.toNat ⟨0, 0, 0, 0⟩).x1, iV (l.getD i.toNat ⟨0, 0, 0, 0⟩).y1]⟩, ⟨B13, 32, [iV ((l.getD i.toNat ⟨0, 0, 0, 0⟩).x0 + ux), iV ((l.getD i.toNat ⟨0, 0, 0, 0⟩).y0 + uy), iV ((l.getD i.toNat ⟨0, 0, 0, 0⟩).x1 + ux), iV ((l.getD i.toNat ⟨0, 0, 0, 0⟩).y1 + uy)]⟩] w7 := hM
       have hbB13 : w.heap.size ≤ B13 := by have := hk0.size; omega
       have hk0 := hk0.trans hk.nn
       have hO := hO.step hM hk.nn (by intro i h; simp only [Mem.names, List.map_cons, List.map_nil, List.mem_cons, List.not_mem_nil, or_false, List.map_append, List.cons_append, List.nil_append] at h ⊢; omega)
       clear hk hB
       replace hO : OwnOk w.heap.size [⟨B1, 46, [iV px, iV py]⟩, ⟨B1 + 1, 46, [iV ux, iV uy]⟩, ⟨B11, 32, [iV (l.getD i.toNat ⟨0, 0, 0, 0⟩).x0, iV (l.getD i.toNat ⟨0, 0, 0, 0⟩).y0, iV (l.getD i.toNat ⟨0, 0, 0, 0⟩).x1, iV (l.getD i.toNat ⟨0, 0, 0, 0⟩).y1]⟩, ⟨B13, 32, [iV ((l.getD i.toNat ⟨0, 0, 0, 0⟩).x0 + ux), iV ((l.getD i.toNat ⟨0, 0, 0, 0⟩).y0 + uy), iV ((l.getD i.toNat ⟨0, 0, 0, 0⟩).x1 + ux), iV ((l.getD i.toNat ⟨0, 0, 0, 0⟩).y1 + uy)]⟩] [oS 32 4 (.slice a10 (((l.take i.toNat).map (mvB ux uy)).length) c10) (((l.take i.toNat).map (mvB ux uy)).length) (flat fB4 ((l.take i.toNat).map (mvB ux uy))), oTree 72 68 T1 Bl1 (bsy l l.length), oS 85 6 (.slice a'1 (bsy l l.length).length c'1) (bsy l l.length).length (flat fBx (bsy l l.length))] w7 := OwnOk.front (l1 := []) (l2 := [oTree 72 68 T1 Bl1 (bsy l l.length), oS 85 6 (.slice a'1 (bsy l l.length).length c'1) (bsy l l.length).length (flat fBx (bsy l l.length))]) hO
       refine sxappend hf hM (e := 32) (sz := 4) (by_ := 32) (k := ((l.take i.toNat).map (mvB ux uy)).length) (v := .slice a10 (((l.take i.toNat).map (mvB ux uy)).length) c10) (xs := flat fB4 ((l.take i.toNat).map (mvB ux uy))) hO rfl rfl rfl rfl (av := some ⟨B13, 0, none⟩) (m := 1) (c := 1) rfl rfl Tryd.underlying22 (by kernel_rfl) rfl (news := flat fB4 ([⟨(l.getD i.toNat ⟨0, 0, 0, 0⟩).x0 + ux, (l.getD i.toNat ⟨0, 0, 0, 0⟩).y0 + uy, (l.getD i.toNat ⟨0, 0, 0, 0⟩).x1 + ux, (l.getD i.toNat ⟨0, 0, 0, 0⟩).y1 + uy⟩] : List B4)) (Arr.of_memT (sz := 4) (f := fB4) (L := ([⟨(l.getD i.toNat ⟨0, 0, 0, 0⟩).x0 + ux, (l.getD i.toNat ⟨0, 0, 0, 0⟩).y0 + uy, (l.getD i.toNat ⟨0, 0, 0, 0⟩).x1 + ux, (l.getD i.toNat ⟨0, 0, 0, 0⟩).y1 + uy⟩] : List B4)) (l := ([⟨(l.getD i.toNat ⟨0, 0, 0, 0⟩).x0 + ux, (l.getD i.toNat ⟨0, 0, 0, 0⟩).y0 + uy, (l.getD i.toNat ⟨0, 0, 0, 0⟩).x1 + ux, (l.getD i.toNat ⟨0, 0, 0, 0⟩).y1 + uy⟩] : List B4)) hM (List.Mem.tail _ (List.Mem.tail _ (List.Mem.tail _ (List.Mem.head _)))) (fun _ => rfl) rfl rfl) (flat_one1 fB4_one) (by simp only [maxLen]; constructor <;> (first | omega | (simp; omega))) (by have := hk0.size; omega) ?_
       clear hf hM hO; intro a w8 av1 cv1 hf hM hO hk
       have en : (((l.take i.toNat).map (mvB ux uy)).length + 1 : Nat) = (((l.take i.toNat).map (mvB ux uy)) ++ ([⟨(l.getD i.toNat ⟨0, 0, 0, 0⟩).x0 + ux, (l.getD i.toNat ⟨0, 0, 0, 0⟩).y0 + uy, (l.getD i.toNat ⟨0, 0, 0, 0⟩).x1 + ux, (l.getD i.toNat ⟨0, 0, 0, 0⟩).y1 + uy⟩] : List B4)).length := (by first | (simp; done) | (simp; omega))
       have ec : flat fB4 ((l.take i.toNat).map (mvB ux uy)) ++ flat fB4 ([⟨(l.getD i.toNat ⟨0, 0, 0, 0⟩).x0 + ux, (l.getD i.toNat ⟨0, 0, 0, 0⟩).y0 + uy, (l.getD i.toNat ⟨0, 0, 0, 0⟩).x1 + ux, (l.getD i.toNat ⟨0, 0, 0, 0⟩).y1 + uy⟩] : List B4) = flat fB4 (((l.take i.toNat).map (mvB ux uy)) ++ ([⟨(l.getD i.toNat ⟨0, 0, 0, 0⟩).x0 + ux, (l.getD i.toNat ⟨0, 0, 0, 0⟩).y0 + uy, (l.getD i.toNat ⟨0, 0, 0, 0⟩).x1 + ux, (l.getD i.toNat ⟨0, 0, 0, 0⟩).y1 + uy⟩] : List B4)) := (by first | rfl | exact (flat_app _ _ _).symm | simp [flat_app, flat_nil])
       rw [en] at hf hO; rw [ec] at hO; clear en ec
       replace hO : OwnOk w.heap.size [⟨B1, 46, [iV px, iV py]⟩, ⟨B1 + 1, 46, [iV ux, iV uy]⟩, ⟨B11, 32, [iV (l.getD i.toNat ⟨0, 0, 0, 0⟩).x0, iV (l.getD i.toNat ⟨0, 0, 0, 0⟩).y0, iV (l.getD i.toNat ⟨0, 0, 0, 0⟩).x1, iV (l.getD i.toNat ⟨0, 0, 0, 0⟩).y1]⟩, ⟨B13, 32, [iV ((l.getD i.toNat ⟨0, 0, 0, 0⟩).x0 + ux), iV ((l.getD i.toNat ⟨0, 0, 0, 0⟩).y0 + uy), iV ((l.getD i.toNat ⟨0, 0, 0, 0⟩).x1 + ux), iV ((l.getD i.toNat ⟨0, 0, 0, 0⟩).y1 + uy)]⟩] [oS 32 4 (.slice av1 ((((l.take i.toNat).map (mvB ux uy)) ++ ([⟨(l.getD i.toNat ⟨0, 0, 0, 0⟩).x0 + ux, (l.getD i.toNat ⟨0, 0, 0, 0⟩).y0 + uy, (l.getD i.toNat ⟨0, 0, 0, 0⟩).x1 + ux, (l.getD i.toNat ⟨0, 0, 0, 0⟩).y1 + uy⟩] : List B4)).length) cv1) ((((l.take i.toNat).map (mvB ux uy)) ++ ([⟨(l.getD i.toNat ⟨0, 0, 0, 0⟩).x0 + ux, (l.getD i.toNat ⟨0, 0, 0, 0⟩).y0 + uy, (l.getD i.toNat ⟨0, 0, 0, 0⟩).x1 + ux, (l.getD i.toNat ⟨0, 0, 0, 0⟩).y1 + uy⟩] : List B4)).length) (flat fB4 (((l.take i.toNat).map (mvB ux uy)) ++ ([⟨(l.getD i.toNat ⟨0, 0, 0, 0⟩).x0 + ux, (l.getD i.toNat ⟨0, 0, 0, 0⟩).y0 + uy, (l.getD i.toNat ⟨0, 0, 0, 0⟩).x1 + ux, (l.getD i.toNat ⟨0, 0, 0, 0⟩).y1 + uy⟩] : List B4))), oTree 72 68 T1 Bl1 (bsy l l.length), oS 85 6 (.slice a'1 (bsy l l.length).length c'1) (bsy l l.length).length (flat fBx (bsy l l.length))] w8 := hO
       have hk0 := hk0.then hk (by intro i hi h; have := h.1; omega)
       clear hk
       refine q0 hf hM [0, 4, 5, 7, 70, 71, 72] [{}] (nw := [(10, eS av1 ((((l.take i.toNat).map (mvB ux uy)) ++ ([⟨(l.getD i.toNat ⟨0, 0, 0, 0⟩).x0 + ux, (l.getD i.toNat ⟨0, 0, 0, 0⟩).y0 + uy, (l.getD i.toNat ⟨0, 0, 0, 0⟩).x1 + ux, (l.getD i.toNat ⟨0, 0, 0, 0⟩).y1 + uy⟩] : List B4)).length) cv1)]) An ?_
       clear hf; intro a hf
       refine wpList_nil ?_
       refine hK13 _ _ ?_
       refine wp_region_lit ?_
       refine q0 hf hM [10, 0, 4, 5, 7, 70, 71] [{ hint := some (iV (i + 1)) }, {}] (nw := [(72, eI (i + 1))]) (ob := [(iV (IntKind.i64.wrap (i + 1)) : Value) = (iV (i + 1) : Value)]) (Ao (wr (by omega))) ?_
       clear hf; intro a hf
       refine wpList_nil ?_
       have hnx : ((l.take (i + 1).toNat).map (mvB ux uy)) = ((l.take i.toNat).map (mvB ux uy)) ++ [⟨(l.getD i.toNat ⟨0, 0, 0, 0⟩).x0 + ux, (l.getD i.toNat ⟨0, 0, 0, 0⟩).y0 + uy, (l.getD i.toNat ⟨0, 0, 0, 0⟩).x1 + ux, (l.getD i.toNat ⟨0, 0, 0, 0⟩).y1 + uy⟩] := by rw [take_nextI (d := (⟨0, 0, 0, 0⟩ : B4)) (by omega), List.map_append]; rfl
       have hf := (hf.prune [0, 4, 5, 7, 10, 70, 71, 72]).to (env' := [(0, eS av l.length c), (4, eP B1 0), (5, eP (B1 + 1) 0), (7, eP T1 0), (10, eS av1 ((((l.take i.toNat).map (mvB ux uy)) ++ ([⟨(l.getD i.toNat ⟨0, 0, 0, 0⟩).x0 + ux, (l.getD i.toNat ⟨0, 0, 0, 0⟩).y0 + uy, (l.getD i.toNat ⟨0, 0, 0, 0⟩).x1 + ux, (l.getD i.toNat ⟨0, 0, 0, 0⟩).y1 + uy⟩] : List B4)).length) cv1), (70, eS av l.length c), (71, eI (l.length : Int)), (72, eI (i + 1))]) (by kernel_rfl)
       replace hO : OwnOk w.heap.size [⟨B1, 46, [iV px, iV py]⟩, ⟨B1 + 1, 46, [iV ux, iV uy]⟩] [oS 32 4 (.slice av1 ((((l.take i.toNat).map (mvB ux uy)) ++ ([⟨(l.getD i.toNat ⟨0, 0, 0, 0⟩).x0 + ux, (l.getD i.toNat ⟨0, 0, 0, 0⟩).y0 + uy, (l.getD i.toNat ⟨0, 0, 0, 0⟩).x1 + ux, (l.getD i.toNat ⟨0, 0, 0, 0⟩).y1 + uy⟩] : List B4)).length) cv1) ((((l.take i.toNat).map (mvB ux uy)) ++ ([⟨(l.getD i.toNat ⟨0, 0, 0, 0⟩).x0 + ux, (l.getD i.toNat ⟨0, 0, 0, 0⟩).y0 + uy, (l.getD i.toNat ⟨0, 0, 0, 0⟩).x1 + ux, (l.getD i.toNat ⟨0, 0, 0, 0⟩).y1 + uy⟩] : List B4)).length) (flat fB4 (((l.take i.toNat).map (mvB ux uy)) ++ ([⟨(l.getD i.toNat ⟨0, 0, 0, 0⟩).x0 + ux, (l.getD i.toNat ⟨0, 0, 0, 0⟩).y0 + uy, (l.getD i.toNat ⟨0, 0, 0, 0⟩).x1 + ux, (l.getD i.toNat ⟨0, 0, 0, 0⟩).y1 + uy⟩] : List B4))), oTree 72 68 T1 Bl1 (bsy l l.length), oS 85 6 (.slice a'1 (bsy l l.length).length c'1) (bsy l l.length).length (flat fBx (bsy l l.length))] w8 := hO.sub (.cons_cons _ (.cons_cons _ (.cons _ (.cons _ .slnil)))) (List.Sublist.refl _)
       replace hM : MemOk [⟨B1, 46, [iV px, iV py]⟩, ⟨B1 + 1, 46, [iV ux, iV uy]⟩] w8 := hM.sub (.cons_cons _ (.cons_cons _ (.cons _ (.cons _ .slnil))))
       replace hO : OwnOk w.heap.size [⟨B1, 46, [iV px, iV py]⟩, ⟨B1 + 1, 46, [iV ux, iV uy]⟩] [oS 32 4 (.slice av1 (((l.take (i + 1).toNat).map (mvB ux uy)).length) cv1) (((l.take (i + 1).toNat).map (mvB ux uy)).length) (flat fB4 ((l.take (i + 1).toNat).map (mvB ux uy))), oTree 72 68 T1 Bl1 (bsy l l.length), oS 85 6 (.slice a'1 (bsy l l.length).length c'1) (bsy l l.length).length (flat fBx (bsy l l.length))] w8 := by
        first | exact hO | (have e : ([oS 32 4 (.slice av1 ((((l.take i.toNat).map (mvB ux uy)) ++ ([⟨(l.getD i.toNat ⟨0, 0, 0, 0⟩).x0 + ux, (l.getD i.toNat ⟨0, 0, 0, 0⟩).y0 + uy, (l.getD i.toNat ⟨0, 0, 0, 0⟩).x1 + ux, (l.getD i.toNat ⟨0, 0, 0, 0⟩).y1 + uy⟩] : List B4)).length) cv1) ((((l.take i.toNat).map (mvB ux uy)) ++ ([⟨(l.getD i.toNat ⟨0, 0, 0, 0⟩).x0 + ux, (l.getD i.toNat ⟨0, 0, 0, 0⟩).y0 + uy, (l.getD i.toNat ⟨0, 0, 0, 0⟩).x1 + ux, (l.getD i.toNat ⟨0, 0, 0, 0⟩).y1 + uy⟩] : List B4)).length) (flat fB4 (((l.take i.toNat).map (mvB ux uy)) ++ ([⟨(l.getD i.toNat ⟨0, 0, 0, 0⟩).x0 + ux, (l.getD i.toNat ⟨0, 0, 0, 0⟩).y0 + uy, (l.getD i.toNat ⟨0, 0, 0, 0⟩).x1 + ux, (l.getD i.toNat ⟨0, 0, 0, 0⟩).y1 + uy⟩] : List B4))), oTree 72 68 T1 Bl1 (bsy l l.length), oS 85 6 (.slice a'1 (bsy l l.length).length c'1) (bsy l l.length).length (flat fBx (bsy l l.length))] : List Own) = [oS 32 4 (.slice av1 (((l.take (i + 1).toNat).map (mvB ux uy)).length) cv1) (((l.take (i + 1).toNat).map (mvB ux uy)).length) (flat fB4 ((l.take (i + 1).toNat).map (mvB ux uy))), oTree 72 68 T1 Bl1 (bsy l l.length), oS 85 6 (.slice a'1 (bsy l l.length).length c'1) (bsy l l.length).length (flat fBx (bsy l l.length))] := by (rw [hnx]; try rfl)) <;> (rw [← e]; exact hO)
       refine hL1 _ _ _ (by omega) ⟨i + 1, av1, cv1, rfl, hf.conv (Ac rfl (Ac rfl (Ac rfl (Ac rfl (Ac (by rw [hnx]; rfl) (Ac rfl (Ac rfl (Ao rfl)))))))), hM, hk0, hO, (by omega)⟩
     · have hc3 := (nU hc3r)
       refine wp_exit ?_
       refine hK9 _ _ ?_
       refine wp_seq_k (fun K15 hK15 => ?_)
       have hf := (hf.prune [73, 0, 4, 5, 7, 10, 70, 71, 72]).to (env' := [(73, eB (decide ((i : Int) < (l.length : Int)))), (0, eS av l.length c), (4, eP B1 0), (5, eP (B1 + 1) 0), (7, eP T1 0), (10, eS a10 (((l.take i.toNat).map (mvB ux uy)).length) c10), (70, eS av l.length c), (71, eI (l.length : Int)), (72, eI i)]) (by kernel_rfl)
       have er : ((l.take i.toNat).map (mvB ux uy)) = (l.map (mvB ux uy)) := (by rw [List.take_of_length_le (by omega)])
       rw [er] at hf hO
       have hlm : (l.map (mvB ux uy)).length = l.length := List.length_map ..
       refine wp_region_lit ?_
       refine q0 hf hM [0, 4, 5, 7] [{}] (nw := [(102, eS a10 ((l.map (mvB ux uy)).length) c10)]) An ?_
       clear hf; intro a hf
       rcases Bool.eq_false_or_eq_true (goodL (l.map (mvB ux uy))) with hs2r | hs2r
       · have hs2 := hs2r
         refine sxcall hf rfl rfl rfl rfl (g := 19) (vs := [.slice a10 ((l.map (mvB ux uy)).length) c10]) (ob := []) (by as_aux_lemma => kernel_rfl) An enters19 (filled_ok E a10 (l.map (mvB ux uy)) c10 w5 hs2r (hG.keep hk0 (fun _ h => h)) (own_arr (hO.own _ (List.Mem.head _)))) ?_
         clear hf; rintro _ w9 a ⟨T2, Bl2, a'2, c'2, rfl, hk, hx2, hdb2⟩ hf
         have hO := hO.moreB hM hk (by have := hk0.size; omega) hx2 hdb2
         replace hO : OwnOk w.heap.size [⟨B1, 46, [iV px, iV py]⟩, ⟨B1 + 1, 46, [iV ux, iV uy]⟩] [oAnd (oTree 72 68 T2 Bl2 (bsy (l.map (mvB ux uy)) (l.map (mvB ux uy)).length)) (oS 85 6 (.slice a'2 (bsy (l.map (mvB ux uy)) (l.map (mvB ux uy)).length).length c'2) (bsy (l.map (mvB ux uy)) (l.map (mvB ux uy)).length).length (flat fBx (bsy (l.map (mvB ux uy)) (l.map (mvB ux uy)).length))), oS 32 4 (.slice a10 ((l.map (mvB ux uy)).length) c10) ((l.map (mvB ux uy)).length) (flat fB4 (l.map (mvB ux uy))), oTree 72 68 T1 Bl1 (bsy l l.length), oS 85 6 (.slice a'1 (bsy l l.length).length c'1) (bsy l l.length).length (flat fBx (bsy l l.length))] _ := hO
         have hM := hM.keepNn hk
         have hk0 := hk0.trans hk.nn
         have hO := hO.split
         clear hk
         refine q0 hf hM [0, 4, 5, 7] [{}, {}, {}, {}, {}, {}, {}] (nw := [(9, eB true), (13, eP T2 0)]) An ?_
         clear hf; intro a hf
         refine wpList_nil ?_
         refine hK15 _ _ ?_
         refine wp_seq_k (fun K16 hK16 => ?_)
         refine wp_seq_k (fun K17 hK17 => ?_)
         refine wp_region_lit ?_
         refine q0 hf hM [13, 0, 4, 5, 7] [{}, {}] (nw := [(108, eB false)]) An ?_
         clear hf; intro a hf
         refine wpList_nil ?_
         refine hK17 _ _ ?_
         refine sxcond hf (b := false) (by kernel_rfl) (fun h => by cases h) (fun _ => ?_)
         refine wp_skip ?_
         refine hK16 _ _ ?_
         refine wp_seq_k (fun K18 hK18 => ?_)
         have hby2 := bsy_len (l.map (mvB ux uy)) (l.map (mvB ux uy)).length
         have hnl1 := nearL_le px py (l.length : Int) (bsy l l.length)
         have hnl2 := nearL_le (px + ux) (py + uy) (l.length : Int) (bsy (l.map (mvB ux uy)) (l.map (mvB ux uy)).length)
         have ho1 : ofOk px py 0 0 = true := decide_eq_true (by omega)
         have hq1 : decide ((l.length : Int) < 0) = false := decide_eq_false (by omega)
         have hsm : sameL (nearL px py (l.length : Int) (bsy l l.length)) (nearL (px + ux) (py + uy) (l.length : Int) (bsy (l.map (mvB ux uy)) (l.map (mvB ux uy)).length)) = true := by rw [near_moved]; exact sameL_refl _
         refine wp_region_lit ?_
         refine q0 hf hM [13, 0, 4, 5] [{}, { os := [.ld 0 0, .ld 0 1] }, {}, {}] (nw := [(113, eI (l.length : Int)), (111, .val (.agg #[iV px, iV py])), (110, eP T1 0)]) (ob := [Ad B1 0, Ad B1 1]) (Ac (ad _ _) (Ao (ad _ _))) ?_
         clear hf; intro a hf
         refine sxcall hf rfl rfl rfl rfl (g := 22) (vs := [pV T1 0, .agg #[iV px, iV py], iV (l.length : Int)]) (ob := []) (by as_aux_lemma => kernel_rfl) An enters22 (nearest_ok E w.heap.size T1 Bl1 (bsy l l.length) px py (l.length : Int) w9 ho1 hq1 (hO.own _ (List.Mem.tail _ (List.Mem.tail _ (List.Mem.tail _ (List.Mem.head _))))) (by have := hk0.size; omega) (by first | omega | (simp; omega) | (simp; done) | (rw [bsy_len]; omega)) (by omega) (hG.keep hk0 (fun _ h => h))) ?_
         clear hf; rintro _ w10 a ⟨a'3, c'3, rfl, hk, hx3⟩ hf
         have hO := hO.more hM hk (by have := hk0.size; omega) hx3
         replace hO : OwnOk w.heap.size [⟨B1, 46, [iV px, iV py]⟩, ⟨B1 + 1, 46, [iV ux, iV uy]⟩] [oS 39 2 (.slice a'3 ((nearL px py (l.length : Int) (bsy l l.length)).length) c'3) ((nearL px py (l.length : Int) (bsy l l.length)).length) (flat fH (nearL px py (l.length : Int) (bsy l l.length))), oTree 72 68 T2 Bl2 (bsy (l.map (mvB ux uy)) (l.map (mvB ux uy)).length), oS 85 6 (.slice a'2 ((bsy (l.map (mvB ux uy)) (l.map (mvB ux uy)).length).length) c'2) ((bsy (l.map (mvB ux uy)) (l.map (mvB ux uy)).length).length) (flat fBx (bsy (l.map (mvB ux uy)) (l.map (mvB ux uy)).length)), oS 32 4 (.slice a10 ((l.map (mvB ux uy)).length) c10) ((l.map (mvB ux uy)).length) (flat fB4 (l.map (mvB ux uy))), oTree 72 68 T1 Bl1 (bsy l l.length), oS 85 6 (.slice a'1 (bsy l l.length).length c'1) (bsy l l.length).length (flat fBx (bsy l l.length))] _ := hO
         have hM := hM.keepNn hk
         have hk0 := hk0.trans hk.nn
         clear hk
         refine q0 hf hM [13, 0, 4, 5] [{}, {}, {}, {}, {}] (nw := [(16, .val (.nilIface)), (15, eS a'3 ((nearL px py (l.length : Int) (bsy l l.length)).length) c'3)]) An ?_
         clear hf; intro a hf
         refine wpList_nil ?_
         refine hK18 _ _ ?_
         refine wp_seq_k (fun K19 hK19 => ?_)
         refine wp_region_lit ?_
         refine q0 hf hM [16, 15] [{}, {}, { os := [.ld 0 0] }, {}, { os := [.ld 1 0] }, { hint := some (iV (px + ux)) }, {}, { os := [.ld 0 1] }, {}, { os := [.ld 1 1] }, { hint := some (iV (py + uy)) }, { sp := true }, {}, {}] (nw := [(131, eI (l.length : Int)), (129, .val (.agg #[iV (px + ux), iV (py + uy)])), (118, eP T2 0)]) (ob := [Ad B1 0, Ad (B1 + 1) 0, (iV (IntKind.i64.wrap (px + ux)) : Value) = (iV (px + ux) : Value), Ad B1 1, Ad (B1 + 1) 1, (iV (IntKind.i64.wrap (py + uy)) : Value) = (iV (py + uy) : Value)]) (Ac (ad _ _) (Ac (ad _ _) (Ac (wr (by omega)) (Ac (ad _ _) (Ac (ad _ _) (Ao (wr (by omega)))))))) ?_
         clear hf; intro a hf
         rcases Bool.eq_false_or_eq_true (ofOk (px + ux) (py + uy) 0 0) with hs3r | hs3r
         · have hs3 := hs3r
           refine sxcall hf rfl rfl rfl rfl (g := 22) (vs := [pV T2 0, .agg #[iV (px + ux), iV (py + uy)], iV (l.length : Int)]) (ob := []) (by as_aux_lemma => kernel_rfl) An enters22 (nearest_ok E w.heap.size T2 Bl2 (bsy (l.map (mvB ux uy)) (l.map (mvB ux uy)).length) (px + ux) (py + uy) (l.length : Int) w10 hs3r hq1 (hO.own _ (List.Mem.tail _ (List.Mem.head _))) (by have := hk0.size; omega) (by first | omega | (simp; omega) | (simp; done) | (rw [bsy_len]; omega)) (by omega) (hG.keep hk0 (fun _ h => h))) ?_
           clear hf; rintro _ w11 a ⟨a'4, c'4, rfl, hk, hx4⟩ hf
           have hO := hO.more hM hk (by have := hk0.size; omega) hx4
           replace hO : OwnOk w.heap.size [⟨B1, 46, [iV px, iV py]⟩, ⟨B1 + 1, 46, [iV ux, iV uy]⟩] [oS 39 2 (.slice a'4 ((nearL (px + ux) (py + uy) (l.length : Int) (bsy (l.map (mvB ux uy)) (l.map (mvB ux uy)).length)).length) c'4) ((nearL (px + ux) (py + uy) (l.length : Int) (bsy (l.map (mvB ux uy)) (l.map (mvB ux uy)).length)).length) (flat fH (nearL (px + ux) (py + uy) (l.length : Int) (bsy (l.map (mvB ux uy)) (l.map (mvB ux uy)).length))), oS 39 2 (.slice a'3 ((nearL px py (l.length : Int) (bsy l l.length)).length) c'3) ((nearL px py (l.length : Int) (bsy l l.length)).length) (flat fH (nearL px py (l.length : Int) (bsy l l.length))), oTree 72 68 T2 Bl2 (bsy (l.map (mvB ux uy)) (l.map (mvB ux uy)).length), oS 85 6 (.slice a'2 ((bsy (l.map (mvB ux uy)) (l.map (mvB ux uy)).length).length) c'2) ((bsy (l.map (mvB ux uy)) (l.map (mvB ux uy)).length).length) (flat fBx (bsy (l.map (mvB ux uy)) (l.map (mvB ux uy)).length)), oS 32 4 (.slice a10 ((l.map (mvB ux uy)).length) c10) ((l.map (mvB ux uy)).length) (flat fB4 (l.map (mvB ux uy))), oTree 72 68 T1 Bl1 (bsy l l.length), oS 85 6 (.slice a'1 (bsy l l.length).length c'1) (bsy l l.length).length (flat fBx (bsy l l.length))] _ := hO
           have hM := hM.keepNn hk
           have hk0 := hk0.trans hk.nn
           clear hk
           refine q0 hf hM [16, 15] [{}, {}, {}, {}, {}] (nw := [(18, .val (.nilIface)), (17, eS a'4 ((nearL (px + ux) (py + uy) (l.length : Int) (bsy (l.map (mvB ux uy)) (l.map (mvB ux uy)).length)).length) c'4)]) An ?_
           clear hf; intro a hf
           refine wpList_nil ?_
           refine hK19 _ _ ?_
           refine wp_seq_k (fun K20 hK20 => ?_)
           refine wp_region_lit ?_
           refine q0 hf hM [] [{}, {}, {}, {}, {}, {}, {}, {}] (nw := [(142, eS a'4 ((nearL (px + ux) (py + uy) (l.length : Int) (bsy (l.map (mvB ux uy)) (l.map (mvB ux uy)).length)).length) c'4), (141, eS a'3 ((nearL px py (l.length : Int) (bsy l l.length)).length) c'3), (140, eB true), (137, eB false)]) (ob := [false = false, false = false, false = false, true = true, true = true]) (Ac rfl (Ac rfl (Ac rfl (Ac rfl (Ao rfl))))) ?_
           clear hf; intro a hf
           refine sxcallg hf rfl rfl rfl rfl rfl (g := 24) (vs := [.slice a'3 ((nearL px py (l.length : Int) (bsy l l.length)).length) c'3, .slice a'4 ((nearL (px + ux) (py + uy) (l.length : Int) (bsy (l.map (mvB ux uy)) (l.map (mvB ux uy)).length)).length) c'4]) (ob := []) (by as_aux_lemma => kernel_rfl) An enters24 (rsameH a'3 (nearL px py (l.length : Int) (bsy l l.length)) c'3 a'4 (nearL (px + ux) (py + uy) (l.length : Int) (bsy (l.map (mvB ux uy)) (l.map (mvB ux uy)).length)) c'4 w11  (own_arr (hO.own _ (List.Mem.tail _ (List.Mem.head _)))) (by first | omega | (simp; omega) | (simp; done) | exact Nat.le_trans (byKinds_len _ _) (by omega) | decide) (own_arr (hO.own _ (List.Mem.head _))) (by first | omega | (simp; omega) | (simp; done) | exact Nat.le_trans (byKinds_len _ _) (by omega) | decide)) ?_
           clear hf; rintro _ w12 a ⟨rfl, hk⟩ hf
           have hO := hO.keepNn hk
           have hM := hM.keepNn hk
           have hk0 := hk0.trans hk.nn
           clear hk
           refine q0 hf hM [] [{}, {}, {}] (nw := [(6, eB (sameL (nearL px py (l.length : Int) (bsy l l.length)) (nearL (px + ux) (py + uy) (l.length : Int) (bsy (l.map (mvB ux uy)) (l.map (mvB ux uy)).length))))]) (ob := [false = false]) (Ao rfl) ?_
           clear hf; intro a hf
           refine wpList_nil ?_
           refine hK20 _ _ ?_
           refine wp_ret ?_
           refine qr (fn := Tryd.f5) hf hM [] (l := [bV (sameL (nearL px py (l.length : Int) (bsy l l.length)) (nearL (px + ux) (py + uy) (l.length : Int) (bsy (l.map (mvB ux uy)) (l.map (mvB ux uy)).length)))]) (ob := []) An ?_
           show (bV (sameL (nearL px py (l.length : Int) (bsy l l.length)) (nearL (px + ux) (py + uy) (l.length : Int) (bsy (l.map (mvB ux uy)) (l.map (mvB ux uy)).length))) : Value) = .bool true ∧ Keep Nn w w12
           refine ⟨congrArg Value.bool ?_, hk0⟩
           simp_all
         · have hs3 := hs3r
           refine sxcall hf rfl rfl rfl rfl (g := 22) (vs := [pV T2 0, .agg #[iV (px + ux), iV (py + uy)], iV (l.length : Int)]) (ob := []) (by as_aux_lemma => kernel_rfl) An enters22 (nearest_no1 E T2 (px + ux) (py + uy) (l.length : Int) w10 hs3r (hG.keep hk0 (fun _ h => h))) ?_
           clear hf; rintro _ w13 a ⟨rfl, hk⟩ hf
           have hO := hO.keepNn hk
           have hM := hM.keepNn hk
           have hk0 := hk0.trans hk.nn
           clear hk
           refine q0 hf hM [16, 15] [{}, {}, {}, {}, {}] (nw := [(18, .val (.iface 161 (.pointer (some (E 1))))), (17, eS none 0 0)]) An ?_
           clear hf; intro a hf
           refine wpList_nil ?_
           refine hK19 _ _ ?_
           refine wp_seq_k (fun K21 hK21 => ?_)
           refine wp_region_lit ?_
           refine q0 hf hM [] [{}, {}, {}, { g := .off }, { g := .off }, { g := .off }, { g := .off }, { g := .off }] (nw := [(142, .val (undef)), (141, .val (undef)), (140, .val (undef)), (137, eB true)]) (ob := [true = !false, true = !false, true = !false]) (Ac rfl (Ac rfl (Ao rfl))) ?_
           clear hf; intro a hf
           refine q0 hf hM [] [{ g := .off }, { g := .off }, {}, {}] (nw := [(6, eB true)]) (ob := [true = !false]) (Ao rfl) ?_
           clear hf; intro a hf
           refine wpList_nil ?_
           refine hK21 _ _ ?_
           refine wp_ret ?_
           refine qr (fn := Tryd.f5) hf hM [] (l := [bV true]) (ob := []) An ?_
           show (bV true : Value) = .bool true ∧ Keep Nn w w13
           exact ⟨rfl, hk0⟩
       · have hs2 := hs2r
         refine sxcall hf rfl rfl rfl rfl (g := 19) (vs := [.slice a10 ((l.map (mvB ux uy)).length) c10]) (ob := []) (by as_aux_lemma => kernel_rfl) An enters19 (filled_no E a10 (l.map (mvB ux uy)) c10 w5 hs2r (hG.keep hk0 (fun _ h => h)) (own_arr (hO.own _ (List.Mem.head _)))) ?_
         clear hf; rintro _ w14 a ⟨T3, n'1, a'5, c'5, rfl, hk⟩ hf
         have hO := hO.keepNn hk
         have hM := hM.keepNn hk
         have hk0 := hk0.trans hk.nn
         clear hk
         refine q0 hf hM [0, 4, 5, 7] [{}, {}, {}, {}, {}, {}, {}] (nw := [(9, eB false), (13, eP T3 0)]) An ?_
         clear hf; intro a hf
         refine wpList_nil ?_
         refine hK15 _ _ ?_
         refine wp_seq_k (fun K22 hK22 => ?_)
         refine wp_seq_k (fun K23 hK23 => ?_)
         refine wp_region_lit ?_
         refine q0 hf hM [13, 0, 4, 5, 7] [{}, {}] (nw := [(108, eB true)]) An ?_
         clear hf; intro a hf
         refine wpList_nil ?_
         refine hK23 _ _ ?_
         refine sxcond hf (b := true) (by kernel_rfl) (fun _ => ?_) (fun h => by cases h)
         refine wp_seq_k (fun K24 hK24 => ?_)
         refine wp_region_lit ?_
         refine q0 hf hM [] [{}] (nw := [(6, eB true)]) An ?_
         clear hf; intro a hf
         refine wpList_nil ?_
         refine hK24 _ _ ?_
         refine wp_ret ?_
         refine qr (fn := Tryd.f5) hf hM [] (l := [bV true]) (ob := []) An ?_
         show (bV true : Value) = .bool true ∧ Keep Nn w w14
         exact ⟨rfl, hk0⟩
 · have hs1 := hs1r
   refine sxcall hf rfl rfl rfl rfl (g := 19) (vs := [.slice av l.length c]) (ob := []) (by as_aux_lemma => kernel_rfl) An enters19 (filled_no E av l c w2 hs1r (hG.keep hk0 (fun _ h => h)) (hav.keepNn hk0)) ?_
   clear hf; rintro _ w15 a ⟨T4, n'2, a'6, c'6, rfl, hk⟩ hf
   have hM := hM.keepNn hk
   have hk0 := hk0.trans hk.nn
   clear hk
   refine q0 hf hM [5, 4, 0] [{}, {}, {}, {}, {}, {}, {}] (nw := [(9, eB false), (7, eP T4 0)]) An ?_
   clear hf; intro a hf
   refine wpList_nil ?_
   refine hK4 _ _ ?_
   refine wp_seq_k (fun K25 hK25 => ?_)
   refine wp_seq_k (fun K26 hK26 => ?_)
   refine wp_region_lit ?_
   refine q0 hf hM [7, 5, 4, 0] [{}, {}, {}, { g := .off }, { g := .off }, { g := .off }, {}, {}, { g := .off }, { g := .off }, { g := .off }, {}, {}, { g := .off }, { g := .off }, { g := .off }, {}, {}, { g := .off }, { g := .off }, { g := .off }, {}, {}, { g := .off }, { g := .off }, { g := .off }, {}, {}, { g := .off }, { g := .off }, { g := .off }, {}, {}, { g := .off }, { g := .off }, { g := .off }, {}, {}, { g := .off }, { g := .off }, { g := .off }, {}] (nw := [(68, eB true)]) (ob := [true = !false, true = !false, true = !false, true = !false, true = !false, true = !false, true = !false, true = !false, true = !false, true = !false, true = !false, true = !false, true = !false, true = !false, true = !false, true = !false, true = !false, true = !false, true = !false, true = !false, true = !false, true = !false, true = !false, true = !false]) (Ac rfl (Ac rfl (Ac rfl (Ac rfl (Ac rfl (Ac rfl (Ac rfl (Ac rfl (Ac rfl (Ac rfl (Ac rfl (Ac rfl (Ac rfl (Ac rfl (Ac rfl (Ac rfl (Ac rfl (Ac rfl (Ac rfl (Ac rfl (Ac rfl (Ac rfl (Ac rfl (Ao rfl)))))))))))))))))))))))) ?_
   clear hf; intro a hf
   refine wpList_nil ?_
   refine hK26 _ _ ?_
   refine sxcond hf (b := true) (by kernel_rfl) (fun _ => ?_) (fun h => by cases h)
   refine wp_seq_k (fun K27 hK27 => ?_)
   refine wp_region_lit ?_
   refine q0 hf hM [] [{}] (nw := [(6, eB true)]) An ?_
   clear hf; intro a hf
   refine wpList_nil ?_
   refine hK27 _ _ ?_
   refine wp_ret ?_
   refine qr (fn := Tryd.f5) hf hM [] (l := [bV true]) (ob := []) An ?_
   show (bV true : Value) = .bool true ∧ Keep Nn w w15
   exact ⟨rfl, hk0⟩
end Go.Proofs.YthofalkkdpjdlaaDoor
