/- layer 6: rows without a kind -/
import Derived.Test.YtifcgjnknikjkaaDoorBC8
import Derived.Test.YtifcgjnknikjkaaDoorXT
import Derived.Test.YtifcgjnknikjkaaDoorXp6f
namespace Go.Proofs.YtifcgjnknikjkaaDoor
open Go.Px
set_option linter.unusedVariables false
set_option linter.unusedSimpArgs false

set_option maxRecDepth 10000 in
set_option maxHeartbeats 1600000 in
theorem index_val (av : Option Addr) (l : List V3) (c : Nat) (gg : Nat) (cb : List Value) (p : V3 → Bool) (w : World) (hav : Arr w 3 av l.length c (flat fV l)) (hbav : l.length ≤ 1000000) (eg : enters Tryd.prog gg) (hp : ∀ (x : V3) (W : World), Keep Nn w W → Calls Tryd.prog gg (([.agg #[iV x.k, iV x.a, iV x.b]] : List Value) ++ cb).toArray W (Ret fun v W2 => v = .bool (p x) ∧ Keep Nn W W2)) :
    Calls Tryd.prog 94 #[.slice av l.length c, .func (.func gg) #[] (cb).toArray] w (Ret fun v w' => v = .int .i64 (idxF p l) ∧ Keep Nn w w') := by
 refine sxenter (n := 19) (args := [.slice av l.length c, .func (.func gg) #[] (cb).toArray]) Tryd.func94 rfl rfl rfl fun a hf => ?_
 replace hf : Fr 19 [(0, eS av l.length c), (1, .val (.func (.func gg) #[] (cb).toArray))] a := hf
 have hM : MemOk [] w := MemOk.nil w
 have hk0 : Keep Nn w w := Keep.refl _ _
 refine wp_seq_k (fun K1 hK1 => ?_)
 refine wp_region_lit ?_
 refine q0 hf hM [0, 1] [{}] (env' := [(0, eS av l.length c), (1, .val (.func (.func gg) #[] (cb).toArray))]) (ob := []) An ?_
 clear hf; intro a hf
 refine wpList_nil ?_
 refine hK1 _ _ ?_
 refine wp_seq_k (fun K2 hK2 => ?_)
 refine wp_seq_k (fun K3 hK3 => ?_)
 refine wp_region_lit ?_
 refine q0 hf hM [8, 7, 0, 1] [{}, {}, {}] (env' := [(8, eI 0), (7, eI (l.length : Int)), (0, eS av l.length c), (1, .val (.func (.func gg) #[] (cb).toArray))]) (ob := []) An ?_
 clear hf; intro a hf
 refine wpList_nil ?_
 refine hK3 _ _ ?_
 refine wp_block ?_
 have hf := hf.prune [0, 1, 7, 8]
 replace hf : Fr 19 [(0, eS av l.length c), (1, .val (.func (.func gg) #[] (cb).toArray)), (7, eI (l.length : Int)), (8, eI 0)] a := hf
 refine sxloop (fun zm a w1 => ∃ (i : Int), zm = ((l.length : Int) - i).toNat ∧ Fr 19 [(0, eS av l.length c), (1, .val (.func (.func gg) #[] (cb).toArray)), (7, eI (l.length : Int)), (8, eI i)] a ∧ MemOk [] w1 ∧ Keep Nn w w1 ∧ (0 ≤ i ∧ i ≤ (l.length : Int)) ∧ (∀ j, j < i.toNat → p (l.getD j ⟨0, 0, 0⟩) = false)) _ ⟨0, rfl, hf.conv (Ac rfl (Ac rfl (Ac rfl (Ao rfl)))), hM, hk0, (by omega), (fun j hj => by simp at hj)⟩ ?_
 clear hf hM hk0
 rintro _ a w1 ⟨i, rfl, hf, hM, hk0, hi, hno⟩ L1 hL1
 refine wp_seq_k (fun K4 hK4 => ?_)
 refine wp_region_lit ?_
 refine q0 hf hM [9, 0, 1, 7, 8] [{}] (env' := [(9, eB (decide ((i : Int) < (l.length : Int)))), (0, eS av l.length c), (1, .val (.func (.func gg) #[] (cb).toArray)), (7, eI (l.length : Int)), (8, eI i)]) (ob := []) An ?_
 clear hf; intro a hf
 refine wpList_nil ?_
 refine hK4 _ _ ?_
 refine wp_seq_k (fun K5 hK5 => ?_)
 refine qc hf (b := (decide ((i : Int) < (l.length : Int)))) (fun hc1r => ?_) (fun hc1r => ?_)
 · have hc1 := (nT hc1r)
   refine wp_skip ?_
   refine hK5 _ _ ?_
   refine wp_seq_k (fun K6 hK6 => ?_)
   refine wp_block ?_
   refine wp_seq_k (fun K7 hK7 => ?_)
   refine wp_region_lit ?_
   refine q0 hf hM [5, 0, 1, 7, 8] [{}, {}] (env' := [(5, eI i), (0, eS av l.length c), (1, .val (.func (.func gg) #[] (cb).toArray)), (7, eI (l.length : Int)), (8, eI i)]) (ob := []) An ?_
   clear hf; intro a hf
   refine wpList_nil ?_
   refine hK7 _ _ ?_
   refine wp_seq_k (fun K8 hK8 => ?_)
   refine wp_region_lit ?_
   refine q0 hf hM [15, 11, 5, 0, 1, 7, 8] [{}, {}, {}, { sp := true }, { os := [.ex (iV (l.getD i.toNat ⟨0, 0, 0⟩).k), .ex (iV (l.getD i.toNat ⟨0, 0, 0⟩).a), .ex (iV (l.getD i.toNat ⟨0, 0, 0⟩).b)] }] (env' := [(15, .val (.agg #[iV (l.getD i.toNat ⟨0, 0, 0⟩).k, iV (l.getD i.toNat ⟨0, 0, 0⟩).a, iV (l.getD i.toNat ⟨0, 0, 0⟩).b])), (11, .val (.func (.func gg) #[] (cb).toArray)), (5, eI i), (0, eS av l.length c), (1, .val (.func (.func gg) #[] (cb).toArray)), (7, eI (l.length : Int)), (8, eI i)]) (ob := [(0 : Int) ≤ i ∧ i < (l.length : Int), (av : Option Addr).isSome = true, w1.cell? (((sa av : Addr).add (i.toNat * 3)).add 0) = some (iV (l.getD i.toNat ⟨0, 0, 0⟩).k), w1.cell? (((sa av : Addr).add (i.toNat * 3)).add 1) = some (iV (l.getD i.toNat ⟨0, 0, 0⟩).a), w1.cell? (((sa av : Addr).add (i.toNat * 3)).add 2) = some (iV (l.getD i.toNat ⟨0, 0, 0⟩).b)]) (Ac (by first | omega | (simp; done)) (Ac ((hav.keepNn hk0).some_ (by first | omega | (simp; done))) (Ac ((hav.keepNn hk0).get (fun _ => rfl) (by first | omega | (simp; done)) rfl) (Ac ((hav.keepNn hk0).get (fun _ => rfl) (by first | omega | (simp; done)) rfl) (Ao ((hav.keepNn hk0).get (fun _ => rfl) (by first | omega | (simp; done)) rfl)))))) ?_
   clear hf; intro a hf
   refine sxcall hf rfl rfl rfl rfl (g := gg) (vs := _) (ob := []) (by as_aux_lemma => kernel_rfl) An eg (hp (l.getD i.toNat ⟨0, 0, 0⟩) w1  hk0) ?_
   clear hf; rintro _ w2 a ⟨rfl, hk⟩ hf
   have hM := hM.keepNn hk
   have hk0 := hk0.trans hk.nn
   clear hk
   refine wpList_nil ?_
   refine hK8 _ _ ?_
   refine qc hf (b := p (l.getD i.toNat ⟨0, 0, 0⟩)) (fun hc2r => ?_) (fun hc2r => ?_)
   · have hc2 := hc2r
     try simp only [Bool.or_eq_true, Bool.and_eq_true, Bool.not_eq_true', Bool.not_eq_false', Bool.or_eq_false_iff, Bool.and_eq_false_iff, decide_eq_true_eq, decide_eq_false_iff_not, beq_iff_eq, bne_iff_ne, beq_eq_false_iff_ne, bne_eq_false_iff_eq, Bool.and_true, Bool.true_and, ne_eq] at hc2
     refine wp_seq_k (fun K9 hK9 => ?_)
     refine wp_region_lit ?_
     refine q0 hf hM [4] [{}, {}] (env' := [(4, eI i)]) (ob := []) An ?_
     clear hf; intro a hf
     refine wpList_nil ?_
     refine hK9 _ _ ?_
     refine wp_ret ?_
     refine qr (fn := Tryd.f94) hf hM [] (l := [iV i]) (ob := []) An ?_
     show (iV i : Value) = .int .i64 (idxF p l) ∧ Keep Nn w w2
     refine ⟨congrArg _ ?_, hk0⟩
     rw [idxF_here (i := i.toNat) (d := ⟨0, 0, 0⟩) (by omega) (by assumption) hno]
     omega
   · have hc2 := hc2r
     try simp only [Bool.or_eq_true, Bool.and_eq_true, Bool.not_eq_true', Bool.not_eq_false', Bool.or_eq_false_iff, Bool.and_eq_false_iff, decide_eq_true_eq, decide_eq_false_iff_not, beq_iff_eq, bne_iff_ne, beq_eq_false_iff_ne, bne_eq_false_iff_eq, Bool.and_true, Bool.true_and, ne_eq] at hc2
     refine wp_skip ?_
     refine hK6 _ _ ?_
     refine wp_region_lit ?_
     refine q0 hf hM [8, 0, 1, 7] [{ hint := some (iV (i + 1)) }, {}] (env' := [(8, eI (i + 1)), (0, eS av l.length c), (1, .val (.func (.func gg) #[] (cb).toArray)), (7, eI (l.length : Int))]) (ob := [(iV (IntKind.i64.wrap (i + 1)) : Value) = (iV (i + 1) : Value)]) (Ao (wr (by omega))) ?_
     clear hf; intro a hf
     refine wpList_nil ?_
     have hno2 := no_next (l := l) (i := i) (d := ⟨0, 0, 0⟩) (by omega) hno (by assumption)
     have hf := hf.prune [0, 1, 7, 8]
     replace hf : Fr 19 [(0, eS av l.length c), (1, .val (.func (.func gg) #[] (cb).toArray)), (7, eI (l.length : Int)), (8, eI (i + 1))] a := hf
     refine hL1 _ _ _ (by omega) ⟨i + 1, rfl, hf.conv (Ac rfl (Ac rfl (Ac rfl (Ao rfl)))), hM, hk0, (by omega), hno2⟩
 · have hc1 := (nU hc1r)
   refine wp_exit ?_
   refine hK2 _ _ ?_
   refine wp_seq_k (fun K10 hK10 => ?_)
   refine wp_region_lit ?_
   refine q0 hf hM [4] [{}] (env' := [(4, eI (-1))]) (ob := []) An ?_
   clear hf; intro a hf
   refine wpList_nil ?_
   refine hK10 _ _ ?_
   refine wp_ret ?_
   refine qr (fn := Tryd.f94) hf hM [] (l := [iV (-1)]) (ob := []) An ?_
   show (iV (-1) : Value) = .int .i64 (idxF p l) ∧ Keep Nn w w1
   exact ⟨congrArg _ (idxF_none (d := ⟨0, 0, 0⟩) fun j hj => hno j (by omega)).symm, hk0⟩

set_option maxRecDepth 10000 in
set_option maxHeartbeats 1600000 in
theorem delete_val (base : Nat) (av : Option Addr) (l : List V3) (c : Nat) (gg : Nat) (cb : List Value) (p : V3 → Bool) (w : World) (hown : w.ownsRow base 62 3 (.slice av l.length c) l.length (flat fV l)) (hbw : base ≤ w.heap.size) (hbav : l.length ≤ 1000000) (eg : enters Tryd.prog gg) (hp : ∀ (x : V3) (W : World), Keep (fun i => Value.ownBlock (.slice av l.length c) = some i) w W → Calls Tryd.prog gg (([.agg #[iV x.k, iV x.a, iV x.b]] : List Value) ++ cb).toArray W (Ret fun v W2 => v = .bool (p x) ∧ Keep Nn W W2)) :
    Calls Tryd.prog 75 #[.slice av l.length c, .func (.func gg) #[] (cb).toArray] w (Ret fun v w' => v = .slice av (dropP p l).length c ∧ World.ownsRow w' base 62 3 (.slice av (dropP p l).length c) (dropP p l).length (flat fV (dropP p l)) ∧ Keep (fun i => Value.ownBlock (.slice av l.length c) = some i) w w') := by
 refine sxenter (n := 42) (args := [.slice av l.length c, .func (.func gg) #[] (cb).toArray]) Tryd.func75 rfl rfl rfl fun a hf => ?_
 replace hf : Fr 42 [(0, eS av l.length c), (1, .val (.func (.func gg) #[] (cb).toArray))] a := hf
 have hM : MemOk [] w := MemOk.nil w
 have hk0 : Keep (fun i => Value.ownBlock (.slice av l.length c) = some i) w w := Keep.refl _ _
 have hO : OwnOk base [] [⟨62, 3, .slice av l.length c, l.length, flat fV l⟩] w := OwnOk.one hown
 refine wp_seq_k (fun K1 hK1 => ?_)
 refine wp_region_lit ?_
 refine q0 hf hM [0, 1] [{}] (env' := [(0, eS av l.length c), (1, .val (.func (.func gg) #[] (cb).toArray))]) (ob := []) An ?_
 clear hf; intro a hf
 refine wpList_nil ?_
 refine hK1 _ _ ?_
 refine wp_seq_k (fun K2 hK2 => ?_)
 refine wp_region_lit ?_
 refine q0 hf hM [9, 8, 0, 1] [{}, {}] (env' := [(9, .val (.func (.func gg) #[] (cb).toArray)), (8, eS av l.length c), (0, eS av l.length c), (1, .val (.func (.func gg) #[] (cb).toArray))]) (ob := []) An ?_
 clear hf; intro a hf
 refine sxcall hf rfl rfl rfl rfl (g := 94) (vs := [.slice av l.length c, .func (.func gg) #[] (cb).toArray]) (ob := []) (by as_aux_lemma => kernel_rfl) An enters94 (index_val av l c gg cb p w  (own_arr (hO.own _ (List.Mem.head _))) (by first | omega | (simp; omega) | (simp; done) | exact Nat.le_trans (byKinds_len _ _) (by omega) | decide) eg (fun x W h => hp x W (hk0.trans h.nn))) ?_
 clear hf; rintro _ w1 a ⟨rfl, hk⟩ hf
 have hO := hO.keepNn hk
 have hM := hM.keepNn hk
 have hk0 := hk0.trans hk.nn
 clear hk
 refine q0 hf hM [5, 0, 1] [{}] (env' := [(5, eI (idxF p l)), (0, eS av l.length c), (1, .val (.func (.func gg) #[] (cb).toArray))]) (ob := []) An ?_
 clear hf; intro a hf
 refine wpList_nil ?_
 refine hK2 _ _ ?_
 refine wp_seq_k (fun K3 hK3 => ?_)
 refine wp_seq_k (fun K4 hK4 => ?_)
 refine wp_region_lit ?_
 refine q0 hf hM [12, 5, 0, 1] [{}, {}] (env' := [(12, eB (((idxF p l) : Int) == (-1))), (5, eI (idxF p l)), (0, eS av l.length c), (1, .val (.func (.func gg) #[] (cb).toArray))]) (ob := []) An ?_
 clear hf; intro a hf
 refine wpList_nil ?_
 refine hK4 _ _ ?_
 refine qc hf (b := (((idxF p l) : Int) == (-1))) (fun hc1r => ?_) (fun hc1r => ?_)
 · have hc1 := (nE hc1r)
   refine wp_seq_k (fun K5 hK5 => ?_)
   refine wp_region_lit ?_
   refine q0 hf hM [4] [{}, {}] (env' := [(4, eS av l.length c)]) (ob := []) An ?_
   clear hf; intro a hf
   refine wpList_nil ?_
   refine hK5 _ _ ?_
   refine wp_ret ?_
   refine qr (fn := Tryd.f75) hf hM [] (l := [.slice av l.length c]) (ob := []) An ?_
   show (.slice av l.length c : Value) = .slice av (dropP p l).length c ∧ World.ownsRow w1 base 62 3 (.slice av (dropP p l).length c) (dropP p l).length (flat fV (dropP p l)) ∧ Keep (fun i => Value.ownBlock (.slice av l.length c) = some i) w w1
   rcases idxF_spec p ⟨0, 0, 0⟩ l with ⟨_, hn⟩ | ⟨i0, h1, _⟩
   · rw [dropP_none hn]; exact ⟨rfl, hO.own _ (List.Mem.head _), hk0⟩
   · exfalso; omega
 · have hc1 := (nF hc1r)
   rcases idxF_spec p ⟨0, 0, 0⟩ l with ⟨h1, _⟩ | ⟨i0, hi0, hi1, hi2, hi3⟩
   · exact absurd h1 (by omega)
   refine wp_skip ?_
   refine hK3 _ _ ?_
   refine wp_seq_k (fun K6 hK6 => ?_)
   refine wp_seq_k (fun K7 hK7 => ?_)
   refine wp_region_lit ?_
   refine q0 hf hM [6, 5, 0, 1] [{}, { hint := some (iV ((idxF p l) + 1)) }, {}] (env' := [(6, eI ((idxF p l) + 1)), (5, eI (idxF p l)), (0, eS av l.length c), (1, .val (.func (.func gg) #[] (cb).toArray))]) (ob := [(iV (IntKind.i64.wrap ((idxF p l) + 1)) : Value) = (iV ((idxF p l) + 1) : Value)]) (Ao (wr (by omega))) ?_
   clear hf; intro a hf
   refine wpList_nil ?_
   refine hK7 _ _ ?_
   refine wp_block ?_
   have hf := hf.prune [0, 1, 5, 6]
   replace hf : Fr 42 [(0, eS av l.length c), (1, .val (.func (.func gg) #[] (cb).toArray)), (5, eI (idxF p l)), (6, eI ((idxF p l) + 1))] a := hf
   refine sxloop (fun zm a w1 => ∃ (i j : Int) (ll : List V3), zm = ((l.length : Int) - j).toNat ∧ Fr 42 [(0, eS av l.length c), (1, .val (.func (.func gg) #[] (cb).toArray)), (5, eI i), (6, eI j)] a ∧ MemOk [] w1 ∧ Keep (fun i => Value.ownBlock (.slice av l.length c) = some i) w w1 ∧ OwnOk base [] [⟨62, 3, .slice av l.length c, l.length, flat fV ll⟩] w1 ∧ (Cut p l ll i.toNat j.toNat) ∧ (0 ≤ i ∧ 0 ≤ j)) _ ⟨idxF p l, idxF p l + 1, l, rfl, hf.conv (Ac rfl (Ac rfl (Ac rfl (Ao (by first | rfl | (congr 1; omega)))))), hM, hk0, hO, (by rw [hi0, show ((i0 : Int)).toNat = i0 by omega, show ((i0 : Int) + 1).toNat = i0 + 1 by omega]; exact Cut.start hi1 hi2 hi3), (by omega)⟩ ?_
   clear hf hM hk0 hO
   rintro _ a w2 ⟨i, j, ll, rfl, hf, hM, hk0, hO, hct, hij⟩ L1 hL1
   have hl1 := hct.le; have hl2 := hct.jl; have hl3 := hct.len
   refine wp_seq_k (fun K8 hK8 => ?_)
   refine wp_seq_k (fun K9 hK9 => ?_)
   refine wp_region_lit ?_
   refine q0 hf hM [19, 0, 1, 5, 6] [{}, {}, {}, {}] (env' := [(19, eB (decide ((j : Int) < (l.length : Int)))), (0, eS av l.length c), (1, .val (.func (.func gg) #[] (cb).toArray)), (5, eI i), (6, eI j)]) (ob := []) An ?_
   clear hf; intro a hf
   refine wpList_nil ?_
   refine hK9 _ _ ?_
   refine qc hf (b := (decide ((j : Int) < (l.length : Int)))) (fun hc2r => ?_) (fun hc2r => ?_)
   · have hc2 := (nT hc2r)
     refine wp_skip ?_
     refine hK8 _ _ ?_
     refine wp_seq_k (fun K10 hK10 => ?_)
     refine wp_block ?_
     refine wp_seq_k (fun K11 hK11 => ?_)
     refine wp_region_lit ?_
     refine q1 hf hM [7, 0, 1, 5, 6] [{}, {}, { sp := true }, { os := [.ex (iV (ll.getD j.toNat ⟨0, 0, 0⟩).k), .ex (iV (ll.getD j.toNat ⟨0, 0, 0⟩).a), .ex (iV (ll.getD j.toNat ⟨0, 0, 0⟩).b)] }, { os := [.nw] }, { os := [.st 0 0, .st 0 1, .st 0 2] }] (env' := fun B8 => [(7, eP B8 0), (0, eS av l.length c), (1, .val (.func (.func gg) #[] (cb).toArray)), (5, eI i), (6, eI j)]) (M' := fun B8 => [⟨B8, 62, [iV (ll.getD j.toNat ⟨0, 0, 0⟩).k, iV (ll.getD j.toNat ⟨0, 0, 0⟩).a, iV (ll.getD j.toNat ⟨0, 0, 0⟩).b]⟩]) (ob := fun B8 => [(0 : Int) ≤ j ∧ j < (l.length : Int), (av : Option Addr).isSome = true, w2.cell? (((sa av : Addr).add (j.toNat * 3)).add 0) = some (iV (ll.getD j.toNat ⟨0, 0, 0⟩).k), w2.cell? (((sa av : Addr).add (j.toNat * 3)).add 1) = some (iV (ll.getD j.toNat ⟨0, 0, 0⟩).a), w2.cell? (((sa av : Addr).add (j.toNat * 3)).add 2) = some (iV (ll.getD j.toNat ⟨0, 0, 0⟩).b), Ad B8 0, Ad B8 1, Ad B8 2]) (fun B8 => (Ac (by first | omega | (simp; done)) (Ac ((own_arr (hO.own _ (List.Mem.head _))).some_ (by first | omega | (simp; done))) (Ac ((own_arr (hO.own _ (List.Mem.head _))).get (fun _ => rfl) (by first | omega | (simp; done)) rfl) (Ac ((own_arr (hO.own _ (List.Mem.head _))).get (fun _ => rfl) (by first | omega | (simp; done)) rfl) (Ac ((own_arr (hO.own _ (List.Mem.head _))).get (fun _ => rfl) (by first | omega | (simp; done)) rfl) (Ac (ad _ _) (Ac (ad _ _) (Ao (ad _ _)))))))))) ?_
     clear hf hM; intro a w3 B8 hf hM hB hk
     have hbB8 : w.heap.size ≤ B8 := by have := hk0.size; omega
     have hk0 := hk0.then hk (by intro i _ h; cases h)
     have hO := hO.step hM (hk.mono (by intro _ _ h; cases h)) (by intro i h; simp only [Mem.names, List.map_cons, List.map_nil, List.mem_cons, List.not_mem_nil, or_false, List.map_append, List.cons_append, List.nil_append] at h ⊢; omega)
     clear hk hB
     refine wpList_nil ?_
     refine hK11 _ _ ?_
     refine wp_seq_k (fun K12 hK12 => ?_)
     refine wp_region_lit ?_
     refine q0 hf hM [27, 26, 7, 0, 1, 5, 6] [{}, { os := [.ld 0 0, .ld 0 1, .ld 0 2] }] (env' := [(27, .val (.agg #[iV (ll.getD j.toNat ⟨0, 0, 0⟩).k, iV (ll.getD j.toNat ⟨0, 0, 0⟩).a, iV (ll.getD j.toNat ⟨0, 0, 0⟩).b])), (26, .val (.func (.func gg) #[] (cb).toArray)), (7, eP B8 0), (0, eS av l.length c), (1, .val (.func (.func gg) #[] (cb).toArray)), (5, eI i), (6, eI j)]) (ob := [Ad B8 0, Ad B8 1, Ad B8 2]) (Ac (ad _ _) (Ac (ad _ _) (Ao (ad _ _)))) ?_
     clear hf; intro a hf
     refine sxcall hf rfl rfl rfl rfl (g := gg) (vs := _) (ob := []) (by as_aux_lemma => kernel_rfl) An eg (hp (ll.getD j.toNat ⟨0, 0, 0⟩) w3  hk0) ?_
     clear hf; rintro _ w4 a ⟨rfl, hk⟩ hf
     have hO := hO.keepNn hk
     have hM := hM.keepNn hk
     have hk0 := hk0.trans hk.nn
     clear hk
     refine q0 hf hM [29, 7, 0, 1, 5, 6] [{}] (env' := [(29, eB (!(p (ll.getD j.toNat ⟨0, 0, 0⟩)))), (7, eP B8 0), (0, eS av l.length c), (1, .val (.func (.func gg) #[] (cb).toArray)), (5, eI i), (6, eI j)]) (ob := []) An ?_
     clear hf; intro a hf
     refine wpList_nil ?_
     refine hK12 _ _ ?_
     refine qc hf (b := !(p (ll.getD j.toNat ⟨0, 0, 0⟩))) (fun hc3r => ?_) (fun hc3r => ?_)
     · have hc3 := hc3r
       try simp only [Bool.or_eq_true, Bool.and_eq_true, Bool.not_eq_true', Bool.not_eq_false', Bool.or_eq_false_iff, Bool.and_eq_false_iff, decide_eq_true_eq, decide_eq_false_iff_not, beq_iff_eq, bne_iff_ne, beq_eq_false_iff_ne, bne_eq_false_iff_eq, Bool.and_true, Bool.true_and, ne_eq] at hc3
       refine wp_seq_k (fun K13 hK13 => ?_)
       refine wp_region_lit ?_
       refine q0 hf hM [33, 32, 0, 1, 5, 6] [{}, {}, { os := [.ld 0 0, .ld 0 1, .ld 0 2] }, { sp := true }] (env' := [(33, .val (.pointer (some ((sa av : Addr).add (i.toNat * 3))))), (32, .val (.agg #[iV (ll.getD j.toNat ⟨0, 0, 0⟩).k, iV (ll.getD j.toNat ⟨0, 0, 0⟩).a, iV (ll.getD j.toNat ⟨0, 0, 0⟩).b])), (0, eS av l.length c), (1, .val (.func (.func gg) #[] (cb).toArray)), (5, eI i), (6, eI j)]) (ob := [Ad B8 0, Ad B8 1, Ad B8 2, (0 : Int) ≤ i ∧ i < (l.length : Int), (av : Option Addr).isSome = true]) (Ac (ad _ _) (Ac (ad _ _) (Ac (ad _ _) (Ac (by first | omega | (simp; done)) (Ao ((own_arr (hO.own _ (List.Mem.head _))).some_ (by first | omega | (simp; done)))))))) ?_
       clear hf; intro a hf
       refine sxset hf hM hO rfl rfl rfl (val := .agg #[iV (ll.getD j.toNat ⟨0, 0, 0⟩).k, iV (ll.getD j.toNat ⟨0, 0, 0⟩).a, iV (ll.getD j.toNat ⟨0, 0, 0⟩).b]) rfl rfl (i := i.toNat) (q := 0) (x := ⟨(ll.getD j.toNat ⟨0, 0, 0⟩).k, (ll.getD j.toNat ⟨0, 0, 0⟩).a, (ll.getD j.toNat ⟨0, 0, 0⟩).b⟩) (d := ⟨0, 0, 0⟩) rfl (by kernel_rfl) (fun _ => rfl) (by omega) hl3 rfl rfl rfl (by intro u hu; simp [Value.cells] at hu; first | (subst hu; rfl) | (rcases hu with rfl | rfl <;> rfl) | (rcases hu with rfl | rfl | rfl <;> rfl) | (rcases hu with rfl | rfl | rfl | rfl <;> rfl) | (rcases hu with rfl | rfl | rfl | rfl | rfl <;> rfl)) ?_
       clear hf; intro a w5 hf hM hO hk
       have hk0 := hk0.then hk (by intro i hi h; exact h)
       clear hk
       refine wpList_nil ?_
       refine hK13 _ _ ?_
       refine wp_region_lit ?_
       refine q0 hf hM [5, 0, 1, 6] [{}, { hint := some (iV (i + 1)) }, {}] (env' := [(5, eI (i + 1)), (0, eS av l.length c), (1, .val (.func (.func gg) #[] (cb).toArray)), (6, eI j)]) (ob := [(iV (IntKind.i64.wrap (i + 1)) : Value) = (iV (i + 1) : Value)]) (Ao (wr (by omega))) ?_
       clear hf; intro a hf
       refine wpList_nil ?_
       refine hK10 _ _ ?_
       refine wp_region_lit ?_
       refine q0 hf hM [6, 5, 0, 1] [{}, { hint := some (iV (j + 1)) }, {}] (env' := [(6, eI (j + 1)), (5, eI (i + 1)), (0, eS av l.length c), (1, .val (.func (.func gg) #[] (cb).toArray))]) (ob := [(iV (IntKind.i64.wrap (j + 1)) : Value) = (iV (j + 1) : Value)]) (Ao (wr (by omega))) ?_
       clear hf; intro a hf
       refine wpList_nil ?_
       have hct2 : Cut p l (ll.set i.toNat ⟨(ll.getD j.toNat ⟨0, 0, 0⟩).k, (ll.getD j.toNat ⟨0, 0, 0⟩).a, (ll.getD j.toNat ⟨0, 0, 0⟩).b⟩) (i + 1).toNat (j + 1).toNat := by
         rw [show (j + 1).toNat = j.toNat + 1 by omega, show (i + 1).toNat = i.toNat + 1 by omega]
         exact hct.keep (d := ⟨0, 0, 0⟩) (by omega) (by assumption)
       have hf := hf.prune [0, 1, 5, 6]
       replace hf : Fr 42 [(0, eS av l.length c), (1, .val (.func (.func gg) #[] (cb).toArray)), (5, eI (i + 1)), (6, eI (j + 1))] a := hf
       replace hO : OwnOk base [] [⟨62, 3, .slice av l.length c, l.length, flat fV (ll.set i.toNat ⟨(ll.getD j.toNat ⟨0, 0, 0⟩).k, (ll.getD j.toNat ⟨0, 0, 0⟩).a, (ll.getD j.toNat ⟨0, 0, 0⟩).b⟩)⟩] w5 := hO.sub (.cons _ .slnil) (List.Sublist.refl _)
       replace hM : MemOk [] w5 := hM.sub (.cons _ .slnil)
       refine hL1 _ _ _ (by omega) ⟨i + 1, j + 1, (ll.set i.toNat ⟨(ll.getD j.toNat ⟨0, 0, 0⟩).k, (ll.getD j.toNat ⟨0, 0, 0⟩).a, (ll.getD j.toNat ⟨0, 0, 0⟩).b⟩), rfl, hf.conv (Ac rfl (Ac rfl (Ac rfl (Ao rfl)))), hM, hk0, hO, hct2, (by omega)⟩
     · have hc3 := hc3r
       try simp only [Bool.or_eq_true, Bool.and_eq_true, Bool.not_eq_true', Bool.not_eq_false', Bool.or_eq_false_iff, Bool.and_eq_false_iff, decide_eq_true_eq, decide_eq_false_iff_not, beq_iff_eq, bne_iff_ne, beq_eq_false_iff_ne, bne_eq_false_iff_eq, Bool.and_true, Bool.true_and, ne_eq] at hc3
       refine wp_skip ?_
       refine hK10 _ _ ?_
       refine wp_region_lit ?_
       refine q0 hf hM [6, 0, 1, 5] [{}, { hint := some (iV (j + 1)) }, {}] (env' := [(6, eI (j + 1)), (0, eS av l.length c), (1, .val (.func (.func gg) #[] (cb).toArray)), (5, eI i)]) (ob := [(iV (IntKind.i64.wrap (j + 1)) : Value) = (iV (j + 1) : Value)]) (Ao (wr (by omega))) ?_
       clear hf; intro a hf
       refine wpList_nil ?_
       have hct2 : Cut p l ll i.toNat (j + 1).toNat := by
         rw [show (j + 1).toNat = j.toNat + 1 by omega]
         exact hct.skip (d := ⟨0, 0, 0⟩) (by omega) (by assumption)
       have hf := hf.prune [0, 1, 5, 6]
       replace hf : Fr 42 [(0, eS av l.length c), (1, .val (.func (.func gg) #[] (cb).toArray)), (5, eI i), (6, eI (j + 1))] a := hf
       replace hO : OwnOk base [] [⟨62, 3, .slice av l.length c, l.length, flat fV ll⟩] w4 := hO.sub (.cons _ .slnil) (List.Sublist.refl _)
       replace hM : MemOk [] w4 := hM.sub (.cons _ .slnil)
       refine hL1 _ _ _ (by omega) ⟨i, j + 1, ll, rfl, hf.conv (Ac rfl (Ac rfl (Ac rfl (Ao rfl)))), hM, hk0, hO, hct2, (by omega)⟩
   · have hc2 := (nU hc2r)
     refine wp_exit ?_
     refine hK6 _ _ ?_
     refine wp_seq_k (fun K14 hK14 => ?_)
     refine wp_region_lit ?_
     refine q0 hf hM [37, 36, 0, 5] [{}, {}] (env' := [(37, eI i), (36, eS av l.length c), (0, eS av l.length c), (5, eI i)]) (ob := []) An ?_
     clear hf; intro a hf
     refine sxval hf rfl rfl rfl rfl (v := .slice (cutA av i.toNat c 3) (l.length - i.toNat) (c - i.toNat)) (ob := []) (by kernel_rfl) An (by rw [show (.slice (cutA av i.toNat c 3) (l.length - i.toNat) (c - i.toNat) : Value) = .slice (cutA av (i : Int).toNat c 3) (l.length - (i : Int).toNat) (c - (i : Int).toNat) from (by simp)]; exact ox_slice_l rfl rfl rfl Tryd.underlying23 (sz := 3) (by kernel_rfl) (by have := ((own_arr (hO.own _ (List.Mem.head _)))).le; omega)) ?_
     clear hf; intro a hf
     refine sxclear hf hM hO rfl rfl rfl (m := i.toNat) rfl Tryd.underlying23 (z := (⟨0, 0, 0⟩ : V3)) (by kernel_rfl) (fun _ => rfl) fV_one rfl (by omega) ?_
     clear hf; intro a w6 hf hM hO hk
     have hk0 := hk0.then hk (by intro i hi h; exact h)
     clear hk
     refine wpList_nil ?_
     refine hK14 _ _ ?_
     refine wp_seq_k (fun K15 hK15 => ?_)
     refine wp_region_lit ?_
     refine q0 hf hM [40, 39] [{}, {}] (env' := [(40, eI i), (39, eS av l.length c)]) (ob := []) An ?_
     clear hf; intro a hf
     refine sxval hf rfl rfl rfl rfl (v := .slice av i.toNat c) (ob := []) (by kernel_rfl) An (by rw [show (.slice av i.toNat c : Value) = .slice av (i : Int).toNat c from (by simp)]; exact ox_slice_h rfl rfl rfl Tryd.underlying23 (sz := 3) (by kernel_rfl) (by have := ((own_arr (hO.own _ (List.Mem.head _)))).le; omega)) ?_
     clear hf; intro a hf
     have hO := hO.cut (fun _ => rfl) (m := i.toNat) (by omega)
     replace hO : OwnOk base [] [⟨62, 3, .slice av i.toNat c, i.toNat, flat fV ((ll.take i.toNat ++ List.replicate (l.length - i.toNat) (⟨0, 0, 0⟩ : V3)).take i.toNat)⟩] w6 := hO
     have el : ((ll.take i.toNat ++ List.replicate (l.length - i.toNat) (⟨0, 0, 0⟩ : V3)).take i.toNat) = (dropP p l) := (hct.done (by omega) _)
     rw [el] at hO; clear el
     have en : (i.toNat : Nat) = (dropP p l).length := (hct.lenEq (by omega))
     rw [en] at hO
     have hf := hf.prune [41, 40, 39]
     replace hf : Fr 42 [(41, eS av i.toNat c), (40, eI i), (39, eS av l.length c)] a := hf
     replace hf : Fr 42 [(41, eS av (dropP p l).length c), (40, eI i), (39, eS av l.length c)] a := hf.conv (Ac (by rw [en]; rfl) (Ac rfl (Ao rfl)))
     clear en
     replace hO : OwnOk base [] [⟨62, 3, .slice av (dropP p l).length c, (dropP p l).length, flat fV (dropP p l)⟩] w6 := hO
     refine q0 hf hM [4] [{}] (env' := [(4, eS av (dropP p l).length c)]) (ob := []) An ?_
     clear hf; intro a hf
     refine wpList_nil ?_
     refine hK15 _ _ ?_
     refine wp_ret ?_
     refine qr (fn := Tryd.f75) hf hM [] (l := [.slice av (dropP p l).length c]) (ob := []) An ?_
     show (.slice av (dropP p l).length c : Value) = .slice av (dropP p l).length c ∧ World.ownsRow w6 base 62 3 (.slice av (dropP p l).length c) (dropP p l).length (flat fV (dropP p l)) ∧ Keep (fun i => Value.ownBlock (.slice av l.length c) = some i) w w6
     exact ⟨rfl, hO.own _ (List.Mem.head _), hk0⟩

set_option maxRecDepth 10000 in
set_option maxHeartbeats 1600000 in
theorem drop1 (k x y : Int) (kk : Int) (B : Nat) (w : World) (hB : w.cell? ⟨B, 0, none⟩ = some (.int .i64 kk)) :
    Calls Tryd.prog 77 #[.agg #[iV k, iV x, iV y], pV B 0] w (Ret fun v w' => v = .bool ((k : Int) == kk) ∧ Keep Nn w w') := by
 refine sxenter (n := 8) (args := [.agg #[iV k, iV x, iV y], pV B 0]) Tryd.func77 rfl rfl rfl fun a hf => ?_
 replace hf : Fr 8 [(0, .val (.agg #[iV k, iV x, iV y])), (1, eP B 0)] a := hf
 have hM : MemOk [] w := MemOk.nil w
 have hk0 : Keep Nn w w := Keep.refl _ _
 refine wp_seq_k (fun K1 hK1 => ?_)
 refine wp_region_lit ?_
 refine q1 hf hM [2, 1] [{ os := [.nw] }, {}] (env' := fun B1 => [(2, eP B1 0), (1, eP B 0)]) (M' := fun B1 => [⟨B1, 62, [iV k, iV x, iV y]⟩]) (ob := fun B1 => []) (fun B1 => An) ?_
 clear hf hM; intro a w1 B1 hf hM hB hk
 have hbB1 : w.heap.size ≤ B1 := by have := hk0.size; omega
 have hk0 := hk0.then hk (by intro i _ h; cases h)
 clear hk hB
 refine wpList_nil ?_
 refine hK1 _ _ ?_
 refine wp_seq_k (fun K2 hK2 => ?_)
 refine wp_region_lit ?_
 refine q0 hf hM [3] [{}, { os := [.ld 0 0] }, { os := [.ex (iV kk)] }, {}, {}] (env' := [(3, eB ((k : Int) == kk))]) (ob := [Ad B1 0, w1.cell? ⟨B, 0, none⟩ = some (iV kk)]) (Ac (ad _ _) (Ao (hk0.cell hB (fun h => h)))) ?_
 clear hf; intro a hf
 refine wpList_nil ?_
 refine hK2 _ _ ?_
 refine wp_ret ?_
 refine qr (fn := Tryd.f77) hf hM [] (l := [bV ((k : Int) == kk)]) (ob := []) An ?_
 show (bV ((k : Int) == kk) : Value) = .bool ((k : Int) == kk) ∧ Keep Nn w w1
 exact ⟨rfl, hk0⟩

set_option maxRecDepth 10000 in
set_option maxHeartbeats 1600000 in
theorem sdrop (av : Option Addr) (l : List V3) (c : Nat) (kk : Int) (w : World) (hav : Arr w 3 av l.length c (flat fV l)) (hbav : l.length ≤ 1000000) :
    Calls Tryd.prog 36 #[.slice av l.length c, iV kk] w (Ret fun v w' => ∃ a' c', v = .slice a' (dropV l kk).length c' ∧ Keep Nn w w' ∧ World.ownsRow w' w.heap.size 62 3 (.slice a' (dropV l kk).length c') (dropV l kk).length (flat fV (dropV l kk))) := by
 refine sxenter (n := 9) (args := [.slice av l.length c, iV kk]) Tryd.func36 rfl rfl rfl fun a hf => ?_
 replace hf : Fr 9 [(0, eS av l.length c), (1, eI kk)] a := hf
 have hM : MemOk [] w := MemOk.nil w
 have hk0 : Keep Nn w w := Keep.refl _ _
 refine wp_seq_k (fun K1 hK1 => ?_)
 refine wp_region_lit ?_
 refine q1 hf hM [3, 0] [{ os := [.nw] }, {}] (env' := fun B1 => [(3, eP B1 0), (0, eS av l.length c)]) (M' := fun B1 => [⟨B1, 3, [iV kk]⟩]) (ob := fun B1 => []) (fun B1 => An) ?_
 clear hf hM; intro a w1 B1 hf hM hB hk
 have hbB1 : w.heap.size ≤ B1 := by have := hk0.size; omega
 have hk0 := hk0.then hk (by intro i _ h; cases h)
 clear hk hB
 refine wpList_nil ?_
 refine hK1 _ _ ?_
 refine wp_seq_k (fun K2 hK2 => ?_)
 refine wp_region_lit ?_
 refine q0 hf hM [5, 3] [{}] (env' := [(5, eS av l.length c), (3, eP B1 0)]) (ob := []) An ?_
 clear hf; intro a hf
 refine sxcall hf rfl rfl rfl rfl (g := 76) (vs := [.slice av l.length c]) (ob := []) (by as_aux_lemma => kernel_rfl) An enters76 (clone_val av l c w1  (hav.keepNn hk0) (by first | omega | (simp; omega) | (simp; done) | exact Nat.le_trans (byKinds_len _ _) (by omega) | decide)) ?_
 clear hf; rintro _ w2 a ⟨a'1, c'1, rfl, hk, hx1⟩ hf
 have hO : OwnOk w.heap.size [⟨B1, 3, [iV kk]⟩] [] w1 := OwnOk.nil hM
 have hO := hO.more hM hk (by have := hk0.size; omega) hx1
 replace hO : OwnOk w.heap.size [⟨B1, 3, [iV kk]⟩] [⟨62, 3, .slice a'1 l.length c'1, l.length, flat fV l⟩] _ := hO
 have hM := hM.keepNn hk
 have hk0 := hk0.trans hk.nn
 clear hk
 refine q0 hf hM [7, 6] [{}] (env' := [(7, .val (.func (.func 77) #[] #[pV B1 0])), (6, eS a'1 l.length c'1)]) (ob := []) An ?_
 clear hf; intro a hf
 replace hO : OwnOk w.heap.size [⟨B1, 3, [iV kk]⟩] [⟨62, 3, .slice a'1 l.length c'1, l.length, flat fV l⟩] w2 := OwnOk.front (l1 := []) (l2 := []) hO
 refine sxcall hf rfl rfl rfl rfl (g := 75) (vs := [.slice a'1 l.length c'1, .func (.func 77) #[] #[pV B1 0]]) (ob := []) (by as_aux_lemma => kernel_rfl) An enters75 (delete_val _ a'1 l c'1 77 [pV B1 0] (fun v => v.k == kk) w2 (hO.own _ (List.Mem.head _)) (by have := hk0.size; omega) (by omega) enters77 (fun x W h => drop1 x.k x.a x.b kk _ W ((cell?_blk ((hO.memTurn hM h).at_ _ (List.Mem.head _)) 0).trans rfl))) ?_
 clear hf; rintro _ w3 a ⟨rfl, hx, hk⟩ hf
 have hM := hO.memTurn hM hk; have hk0 := hk0.then hk (by intro i hi h; have := ((hO.own _ (List.Mem.head _)).lt i h).1; omega); have hO := hO.turn2 hk hx; clear hk hx
 replace hO : OwnOk w.heap.size [⟨B1, 3, [iV kk]⟩] [⟨62, 3, .slice a'1 (dropV l kk).length c'1, (dropV l kk).length, flat fV (dropV l kk)⟩] w3 := hO
 refine q0 hf hM [4] [{}] (env' := [(4, eS a'1 (dropV l kk).length c'1)]) (ob := []) An ?_
 clear hf; intro a hf
 refine wpList_nil ?_
 refine hK2 _ _ ?_
 refine wp_ret ?_
 refine qr (fn := Tryd.f36) hf hM [] (l := [.slice a'1 (dropV l kk).length c'1]) (ob := []) An ?_
 show ∃ a' c', (.slice a'1 (dropV l kk).length c'1 : Value) = .slice a' (dropV l kk).length c' ∧ Keep Nn w w3 ∧ World.ownsRow w3 w.heap.size 62 3 (.slice a' (dropV l kk).length c') (dropV l kk).length (flat fV (dropV l kk))
 exact ⟨_, _, rfl, hk0, hO.own _ (List.Mem.head _)⟩

set_option maxRecDepth 10000 in
set_option maxHeartbeats 1600000 in
theorem rdrop (av : Option Addr) (l : List V3) (c : Nat) (kk : Int) (w : World) (hav : Arr w 3 av l.length c (flat fV l)) (hbav : l.length ≤ 1000000) :
    Calls Tryd.prog 39 #[.slice av l.length c, iV kk] w (Ret fun v w' => ∃ a' c', v = .slice a' (dropV l kk).length c' ∧ Keep Nn w w' ∧ World.ownsRow w' w.heap.size 62 3 (.slice a' (dropV l kk).length c') (dropV l kk).length (flat fV (dropV l kk))) := by
 refine sxenter (n := 25) (args := [.slice av l.length c, iV kk]) Tryd.func39 rfl rfl rfl fun a hf => ?_
 replace hf : Fr 25 [(0, eS av l.length c), (1, eI kk)] a := hf
 have hM : MemOk [] w := MemOk.nil w
 have hk0 : Keep Nn w w := Keep.refl _ _
 refine wp_seq_k (fun K1 hK1 => ?_)
 refine wp_region_lit ?_
 refine q0 hf hM [0, 1] [{}] (env' := [(0, eS av l.length c), (1, eI kk)]) (ob := []) An ?_
 clear hf; intro a hf
 refine wpList_nil ?_
 refine hK1 _ _ ?_
 refine wp_seq_k (fun K2 hK2 => ?_)
 refine wp_region_lit ?_
 refine sxbslice hf hM (t := 23) (e := 62) (len := 0) (cs := []) (ob := []) rfl rfl rfl rfl (by as_aux_lemma => kernel_rfl) An (by as_aux_lemma => kernel_rfl) ?_
 clear hf hM; intro a w1 B2 hf hM hB hk
 replace hM : MemOk [⟨B2, 62, []⟩] w1 := hM
 have hbB2 : w.heap.size ≤ B2 := by have := hk0.size; omega
 have hk0 := hk0.trans hk.nn
 clear hk hB
 refine q0 hf hM [5, 0, 1] [{}] (env' := [(5, eS (some ⟨B2, 0, none⟩) 0 0), (0, eS av l.length c), (1, eI kk)]) (ob := []) An ?_
 clear hf; intro a hf
 refine wpList_nil ?_
 refine hK2 _ _ ?_
 refine wp_seq_k (fun K3 hK3 => ?_)
 refine wp_seq_k (fun K4 hK4 => ?_)
 refine wp_region_lit ?_
 refine q0 hf hM [11, 10, 9, 5, 1] [{}, {}, {}] (env' := [(11, eI 0), (10, eI (l.length : Int)), (9, eS av l.length c), (5, eS (some ⟨B2, 0, none⟩) 0 0), (1, eI kk)]) (ob := []) An ?_
 clear hf; intro a hf
 refine wpList_nil ?_
 refine hK4 _ _ ?_
 refine wp_block ?_
 have hO : OwnOk w.heap.size [⟨B2, 62, []⟩] [] w1 := OwnOk.nil hM
 replace hO := OwnOk.took (M1 := []) (M2 := []) (sz := 3) hO hM (n := 0) (c := 0) (by have := hk0.size; omega) (by decide) (by decide) rfl
 replace hM : MemOk [] w1 := hM.sub (.cons _ .slnil)
 replace hO : OwnOk w.heap.size [] [⟨62, 3, .slice (some ⟨B2, 0, none⟩) 0 0, 0, flat fV ([] : List V3)⟩] w1 := hO
 have hf := hf.prune [1, 5, 9, 10, 11]
 replace hf : Fr 25 [(1, eI kk), (5, eS (some ⟨B2, 0, none⟩) 0 0), (9, eS av l.length c), (10, eI (l.length : Int)), (11, eI 0)] a := hf
 replace hO : OwnOk w.heap.size [] [⟨62, 3, .slice (some ⟨B2, 0, none⟩) ((dropV (l.take (0 : Int).toNat) kk).length) 0, (dropV (l.take (0 : Int).toNat) kk).length, flat fV (dropV (l.take (0 : Int).toNat) kk)⟩] w1 := by
  first | exact hO | (have e : ([⟨62, 3, .slice (some ⟨B2, 0, none⟩) 0 0, 0, flat fV ([] : List V3)⟩] : List Own) = [⟨62, 3, .slice (some ⟨B2, 0, none⟩) ((dropV (l.take (0 : Int).toNat) kk).length) 0, (dropV (l.take (0 : Int).toNat) kk).length, flat fV (dropV (l.take (0 : Int).toNat) kk)⟩] := by rfl) <;> (rw [← e]; exact hO)
 refine sxloop (fun zm a w1 => ∃ (i : Int) (a5 : Option Addr) (c5 : Nat), zm = ((l.length : Int) - i).toNat ∧ Fr 25 [(1, eI kk), (5, eS a5 ((dropV (l.take i.toNat) kk).length) c5), (9, eS av l.length c), (10, eI (l.length : Int)), (11, eI i)] a ∧ MemOk [] w1 ∧ Keep Nn w w1 ∧ OwnOk w.heap.size [] [⟨62, 3, .slice a5 ((dropV (l.take i.toNat) kk).length) c5, (dropV (l.take i.toNat) kk).length, flat fV (dropV (l.take i.toNat) kk)⟩] w1 ∧ (0 ≤ i ∧ i ≤ (l.length : Int))) _ ⟨0, some ⟨B2, 0, none⟩, 0, rfl, hf.conv (Ac rfl (Ac rfl (Ac rfl (Ac rfl (Ao rfl))))), hM, hk0, hO, (by omega)⟩ ?_
 clear hf hM hk0 hO
 rintro _ a w2 ⟨i, a5, c5, rfl, hf, hM, hk0, hO, hi⟩ L1 hL1
 have hdl := dropV_len (l.take i.toNat) kk
 rw [List.length_take] at hdl
 refine wp_seq_k (fun K5 hK5 => ?_)
 refine wp_region_lit ?_
 refine q0 hf hM [12, 1, 5, 9, 10, 11] [{}] (env' := [(12, eB (decide ((i : Int) < (l.length : Int)))), (1, eI kk), (5, eS a5 ((dropV (l.take i.toNat) kk).length) c5), (9, eS av l.length c), (10, eI (l.length : Int)), (11, eI i)]) (ob := []) An ?_
 clear hf; intro a hf
 refine wpList_nil ?_
 refine hK5 _ _ ?_
 refine wp_seq_k (fun K6 hK6 => ?_)
 refine qc hf (b := (decide ((i : Int) < (l.length : Int)))) (fun hc1r => ?_) (fun hc1r => ?_)
 · have hc1 := (nT hc1r)
   refine wp_skip ?_
   refine hK6 _ _ ?_
   refine wp_seq_k (fun K7 hK7 => ?_)
   refine wp_block ?_
   refine wp_seq_k (fun K8 hK8 => ?_)
   refine wp_region_lit ?_
   refine q1 hf hM [7, 1, 5, 9, 10, 11] [{ sp := true }, { os := [.ex (iV (l.getD i.toNat ⟨0, 0, 0⟩).k), .ex (iV (l.getD i.toNat ⟨0, 0, 0⟩).a), .ex (iV (l.getD i.toNat ⟨0, 0, 0⟩).b)] }, { os := [.nw] }, { os := [.st 0 0, .st 0 1, .st 0 2] }] (env' := fun B6 => [(7, eP B6 0), (1, eI kk), (5, eS a5 ((dropV (l.take i.toNat) kk).length) c5), (9, eS av l.length c), (10, eI (l.length : Int)), (11, eI i)]) (M' := fun B6 => [⟨B6, 62, [iV (l.getD i.toNat ⟨0, 0, 0⟩).k, iV (l.getD i.toNat ⟨0, 0, 0⟩).a, iV (l.getD i.toNat ⟨0, 0, 0⟩).b]⟩]) (ob := fun B6 => [(0 : Int) ≤ i ∧ i < (l.length : Int), (av : Option Addr).isSome = true, w2.cell? (((sa av : Addr).add (i.toNat * 3)).add 0) = some (iV (l.getD i.toNat ⟨0, 0, 0⟩).k), w2.cell? (((sa av : Addr).add (i.toNat * 3)).add 1) = some (iV (l.getD i.toNat ⟨0, 0, 0⟩).a), w2.cell? (((sa av : Addr).add (i.toNat * 3)).add 2) = some (iV (l.getD i.toNat ⟨0, 0, 0⟩).b), Ad B6 0, Ad B6 1, Ad B6 2]) (fun B6 => (Ac (by first | omega | (simp; done)) (Ac ((hav.keepNn hk0).some_ (by first | omega | (simp; done))) (Ac ((hav.keepNn hk0).get (fun _ => rfl) (by first | omega | (simp; done)) rfl) (Ac ((hav.keepNn hk0).get (fun _ => rfl) (by first | omega | (simp; done)) rfl) (Ac ((hav.keepNn hk0).get (fun _ => rfl) (by first | omega | (simp; done)) rfl) (Ac (ad _ _) (Ac (ad _ _) (Ao (ad _ _)))))))))) ?_
   clear hf hM; intro a w3 B6 hf hM hB hk
   have hbB6 : w.heap.size ≤ B6 := by have := hk0.size; omega
   have hk0 := hk0.then hk (by intro i _ h; cases h)
   have hO := hO.step hM (hk.mono (by intro _ _ h; cases h)) (by intro i h; simp only [Mem.names, List.map_cons, List.map_nil, List.mem_cons, List.not_mem_nil, or_false, List.map_append, List.cons_append, List.nil_append] at h ⊢; omega)
   clear hk hB
   refine wpList_nil ?_
   refine hK8 _ _ ?_
   refine wp_seq_k (fun K9 hK9 => ?_)
   refine wp_region_lit ?_
   refine q0 hf hM [18, 7, 1, 5, 9, 10, 11] [{}, { os := [.ld 0 0] }, {}, {}] (env' := [(18, eB (((l.getD i.toNat ⟨0, 0, 0⟩).k : Int) != kk)), (7, eP B6 0), (1, eI kk), (5, eS a5 ((dropV (l.take i.toNat) kk).length) c5), (9, eS av l.length c), (10, eI (l.length : Int)), (11, eI i)]) (ob := [Ad B6 0]) (Ao (ad _ _)) ?_
   clear hf; intro a hf
   refine wpList_nil ?_
   refine hK9 _ _ ?_
   refine qc hf (b := (((l.getD i.toNat ⟨0, 0, 0⟩).k : Int) != kk)) (fun hc2r => ?_) (fun hc2r => ?_)
   · have hc2 := (nN hc2r)
     refine wp_region_lit ?_
     refine q0 hf hM [20, 19, 1, 5, 9, 10, 11] [{}, { os := [.ld 0 0, .ld 0 1, .ld 0 2] }] (env' := [(20, .val (.agg #[iV (l.getD i.toNat ⟨0, 0, 0⟩).k, iV (l.getD i.toNat ⟨0, 0, 0⟩).a, iV (l.getD i.toNat ⟨0, 0, 0⟩).b])), (19, eS a5 ((dropV (l.take i.toNat) kk).length) c5), (1, eI kk), (5, eS a5 ((dropV (l.take i.toNat) kk).length) c5), (9, eS av l.length c), (10, eI (l.length : Int)), (11, eI i)]) (ob := [Ad B6 0, Ad B6 1, Ad B6 2]) (Ac (ad _ _) (Ac (ad _ _) (Ao (ad _ _)))) ?_
     clear hf; intro a hf
     refine sxbslice hf hM (t := 23) (e := 62) (len := 1) (cs := [iV (l.getD i.toNat ⟨0, 0, 0⟩).k, iV (l.getD i.toNat ⟨0, 0, 0⟩).a, iV (l.getD i.toNat ⟨0, 0, 0⟩).b]) (ob := []) rfl rfl rfl rfl (by as_aux_lemma => kernel_rfl) An (by as_aux_lemma => kernel_rfl) ?_
     clear hf hM; intro a w4 B9 hf hM hB hk
     replace hM : MemOk [⟨B6, 62, [iV (l.getD i.toNat ⟨0, 0, 0⟩).k, iV (l.getD i.toNat ⟨0, 0, 0⟩).a, iV (l.getD i.toNat ⟨0, 0, 0⟩).b]⟩, ⟨B9, 62, [iV (l.getD i.toNat ⟨0, 0, 0⟩).k, iV (l.getD i.toNat ⟨0, 0, 0⟩).a, iV (l.getD i.toNat ⟨0, 0, 0⟩).b]⟩] w4 := hM
     have hbB9 : w.heap.size ≤ B9 := by have := hk0.size; omega
     have hk0 := hk0.trans hk.nn
     have hO := hO.step hM hk.nn (by intro i h; simp only [Mem.names, List.map_cons, List.map_nil, List.mem_cons, List.not_mem_nil, or_false, List.map_append, List.cons_append, List.nil_append] at h ⊢; omega)
     clear hk hB
     replace hO : OwnOk w.heap.size [⟨B6, 62, [iV (l.getD i.toNat ⟨0, 0, 0⟩).k, iV (l.getD i.toNat ⟨0, 0, 0⟩).a, iV (l.getD i.toNat ⟨0, 0, 0⟩).b]⟩, ⟨B9, 62, [iV (l.getD i.toNat ⟨0, 0, 0⟩).k, iV (l.getD i.toNat ⟨0, 0, 0⟩).a, iV (l.getD i.toNat ⟨0, 0, 0⟩).b]⟩] [⟨62, 3, .slice a5 ((dropV (l.take i.toNat) kk).length) c5, (dropV (l.take i.toNat) kk).length, flat fV (dropV (l.take i.toNat) kk)⟩] w4 := OwnOk.front (l1 := []) (l2 := []) hO
     refine sxappend hf hM (e := 62) (sz := 3) (by_ := 24) (k := (dropV (l.take i.toNat) kk).length) (v := .slice a5 ((dropV (l.take i.toNat) kk).length) c5) (xs := flat fV (dropV (l.take i.toNat) kk)) hO rfl rfl rfl rfl (av := some ⟨B9, 0, none⟩) (m := 1) (c := 1) rfl rfl Tryd.underlying23 (by kernel_rfl) rfl (news := flat fV ([⟨(l.getD i.toNat ⟨0, 0, 0⟩).k, (l.getD i.toNat ⟨0, 0, 0⟩).a, (l.getD i.toNat ⟨0, 0, 0⟩).b⟩] : List V3)) (Arr.of_memT (sz := 3) (f := fV) (L := ([⟨(l.getD i.toNat ⟨0, 0, 0⟩).k, (l.getD i.toNat ⟨0, 0, 0⟩).a, (l.getD i.toNat ⟨0, 0, 0⟩).b⟩] : List V3)) (l := ([⟨(l.getD i.toNat ⟨0, 0, 0⟩).k, (l.getD i.toNat ⟨0, 0, 0⟩).a, (l.getD i.toNat ⟨0, 0, 0⟩).b⟩] : List V3)) hM (List.Mem.tail _ (List.Mem.head _)) (fun _ => rfl) rfl rfl) (flat_one1 fV_one) (by simp only [maxLen]; constructor <;> (first | omega | (simp; omega))) (by have := hk0.size; omega) ?_
     clear hf hM hO; intro a w5 av1 cv1 hf hM hO hk
     have en : ((dropV (l.take i.toNat) kk).length + 1 : Nat) = ((dropV (l.take i.toNat) kk) ++ ([⟨(l.getD i.toNat ⟨0, 0, 0⟩).k, (l.getD i.toNat ⟨0, 0, 0⟩).a, (l.getD i.toNat ⟨0, 0, 0⟩).b⟩] : List V3)).length := (by simp)
     have ec : flat fV (dropV (l.take i.toNat) kk) ++ flat fV ([⟨(l.getD i.toNat ⟨0, 0, 0⟩).k, (l.getD i.toNat ⟨0, 0, 0⟩).a, (l.getD i.toNat ⟨0, 0, 0⟩).b⟩] : List V3) = flat fV ((dropV (l.take i.toNat) kk) ++ ([⟨(l.getD i.toNat ⟨0, 0, 0⟩).k, (l.getD i.toNat ⟨0, 0, 0⟩).a, (l.getD i.toNat ⟨0, 0, 0⟩).b⟩] : List V3)) := (by simp [flat_app, flat_nil])
     rw [en] at hf hO; rw [ec] at hO; clear en ec
     replace hO : OwnOk w.heap.size [⟨B6, 62, [iV (l.getD i.toNat ⟨0, 0, 0⟩).k, iV (l.getD i.toNat ⟨0, 0, 0⟩).a, iV (l.getD i.toNat ⟨0, 0, 0⟩).b]⟩, ⟨B9, 62, [iV (l.getD i.toNat ⟨0, 0, 0⟩).k, iV (l.getD i.toNat ⟨0, 0, 0⟩).a, iV (l.getD i.toNat ⟨0, 0, 0⟩).b]⟩] [⟨62, 3, .slice av1 (((dropV (l.take i.toNat) kk) ++ ([⟨(l.getD i.toNat ⟨0, 0, 0⟩).k, (l.getD i.toNat ⟨0, 0, 0⟩).a, (l.getD i.toNat ⟨0, 0, 0⟩).b⟩] : List V3)).length) cv1, ((dropV (l.take i.toNat) kk) ++ ([⟨(l.getD i.toNat ⟨0, 0, 0⟩).k, (l.getD i.toNat ⟨0, 0, 0⟩).a, (l.getD i.toNat ⟨0, 0, 0⟩).b⟩] : List V3)).length, flat fV ((dropV (l.take i.toNat) kk) ++ ([⟨(l.getD i.toNat ⟨0, 0, 0⟩).k, (l.getD i.toNat ⟨0, 0, 0⟩).a, (l.getD i.toNat ⟨0, 0, 0⟩).b⟩] : List V3))⟩] w5 := hO
     have hk0 := hk0.then hk (by intro i hi h; have := h.1; omega)
     clear hk
     refine q0 hf hM [5, 1, 9, 10, 11] [{}] (env' := [(5, eS av1 (((dropV (l.take i.toNat) kk) ++ ([⟨(l.getD i.toNat ⟨0, 0, 0⟩).k, (l.getD i.toNat ⟨0, 0, 0⟩).a, (l.getD i.toNat ⟨0, 0, 0⟩).b⟩] : List V3)).length) cv1), (1, eI kk), (9, eS av l.length c), (10, eI (l.length : Int)), (11, eI i)]) (ob := []) An ?_
     clear hf; intro a hf
     refine wpList_nil ?_
     refine hK7 _ _ ?_
     refine wp_region_lit ?_
     refine q0 hf hM [11, 5, 1, 9, 10] [{ hint := some (iV (i + 1)) }, {}] (env' := [(11, eI (i + 1)), (5, eS av1 (((dropV (l.take i.toNat) kk) ++ ([⟨(l.getD i.toNat ⟨0, 0, 0⟩).k, (l.getD i.toNat ⟨0, 0, 0⟩).a, (l.getD i.toNat ⟨0, 0, 0⟩).b⟩] : List V3)).length) cv1), (1, eI kk), (9, eS av l.length c), (10, eI (l.length : Int))]) (ob := [(iV (IntKind.i64.wrap (i + 1)) : Value) = (iV (i + 1) : Value)]) (Ao (wr (by omega))) ?_
     clear hf; intro a hf
     refine wpList_nil ?_
     have hf := hf.prune [1, 5, 9, 10, 11]
     replace hf : Fr 25 [(1, eI kk), (5, eS av1 (((dropV (l.take i.toNat) kk) ++ ([⟨(l.getD i.toNat ⟨0, 0, 0⟩).k, (l.getD i.toNat ⟨0, 0, 0⟩).a, (l.getD i.toNat ⟨0, 0, 0⟩).b⟩] : List V3)).length) cv1), (9, eS av l.length c), (10, eI (l.length : Int)), (11, eI (i + 1))] a := hf
     replace hO : OwnOk w.heap.size [] [⟨62, 3, .slice av1 (((dropV (l.take i.toNat) kk) ++ ([⟨(l.getD i.toNat ⟨0, 0, 0⟩).k, (l.getD i.toNat ⟨0, 0, 0⟩).a, (l.getD i.toNat ⟨0, 0, 0⟩).b⟩] : List V3)).length) cv1, ((dropV (l.take i.toNat) kk) ++ ([⟨(l.getD i.toNat ⟨0, 0, 0⟩).k, (l.getD i.toNat ⟨0, 0, 0⟩).a, (l.getD i.toNat ⟨0, 0, 0⟩).b⟩] : List V3)).length, flat fV ((dropV (l.take i.toNat) kk) ++ ([⟨(l.getD i.toNat ⟨0, 0, 0⟩).k, (l.getD i.toNat ⟨0, 0, 0⟩).a, (l.getD i.toNat ⟨0, 0, 0⟩).b⟩] : List V3))⟩] w5 := hO.sub (.cons _ (.cons _ .slnil)) (List.Sublist.refl _)
     replace hM : MemOk [] w5 := hM.sub (.cons _ (.cons _ .slnil))
     replace hO : OwnOk w.heap.size [] [⟨62, 3, .slice av1 ((dropV (l.take (i + 1).toNat) kk).length) cv1, (dropV (l.take (i + 1).toNat) kk).length, flat fV (dropV (l.take (i + 1).toNat) kk)⟩] w5 := by
      first | exact hO | (have e : ([⟨62, 3, .slice av1 (((dropV (l.take i.toNat) kk) ++ ([⟨(l.getD i.toNat ⟨0, 0, 0⟩).k, (l.getD i.toNat ⟨0, 0, 0⟩).a, (l.getD i.toNat ⟨0, 0, 0⟩).b⟩] : List V3)).length) cv1, ((dropV (l.take i.toNat) kk) ++ ([⟨(l.getD i.toNat ⟨0, 0, 0⟩).k, (l.getD i.toNat ⟨0, 0, 0⟩).a, (l.getD i.toNat ⟨0, 0, 0⟩).b⟩] : List V3)).length, flat fV ((dropV (l.take i.toNat) kk) ++ ([⟨(l.getD i.toNat ⟨0, 0, 0⟩).k, (l.getD i.toNat ⟨0, 0, 0⟩).a, (l.getD i.toNat ⟨0, 0, 0⟩).b⟩] : List V3))⟩] : List Own) = [⟨62, 3, .slice av1 ((dropV (l.take (i + 1).toNat) kk).length) cv1, (dropV (l.take (i + 1).toNat) kk).length, flat fV (dropV (l.take (i + 1).toNat) kk)⟩] := by first | (rw [dropV_in (by omega) (by assumption)]; try rfl) | (rw [dropV_out (by omega) (by assumption)]; try rfl)) <;> (rw [← e]; exact hO)
     refine hL1 _ _ _ (by omega) ⟨i + 1, av1, cv1, rfl, hf.conv (Ac rfl (Ac (by first | (rw [dropV_in (by omega) (by assumption)]; rfl) | (rw [dropV_out (by omega) (by assumption)]; rfl)) (Ac rfl (Ac rfl (Ao rfl))))), hM, hk0, hO, (by omega)⟩
   · have hc2 := (nM hc2r)
     refine wp_skip ?_
     refine hK7 _ _ ?_
     refine wp_region_lit ?_
     refine q0 hf hM [11, 1, 5, 9, 10] [{ hint := some (iV (i + 1)) }, {}] (env' := [(11, eI (i + 1)), (1, eI kk), (5, eS a5 ((dropV (l.take i.toNat) kk).length) c5), (9, eS av l.length c), (10, eI (l.length : Int))]) (ob := [(iV (IntKind.i64.wrap (i + 1)) : Value) = (iV (i + 1) : Value)]) (Ao (wr (by omega))) ?_
     clear hf; intro a hf
     refine wpList_nil ?_
     have hf := hf.prune [1, 5, 9, 10, 11]
     replace hf : Fr 25 [(1, eI kk), (5, eS a5 ((dropV (l.take i.toNat) kk).length) c5), (9, eS av l.length c), (10, eI (l.length : Int)), (11, eI (i + 1))] a := hf
     replace hO : OwnOk w.heap.size [] [⟨62, 3, .slice a5 ((dropV (l.take i.toNat) kk).length) c5, (dropV (l.take i.toNat) kk).length, flat fV (dropV (l.take i.toNat) kk)⟩] w3 := hO.sub (.cons _ .slnil) (List.Sublist.refl _)
     replace hM : MemOk [] w3 := hM.sub (.cons _ .slnil)
     replace hO : OwnOk w.heap.size [] [⟨62, 3, .slice a5 ((dropV (l.take (i + 1).toNat) kk).length) c5, (dropV (l.take (i + 1).toNat) kk).length, flat fV (dropV (l.take (i + 1).toNat) kk)⟩] w3 := by
      first | exact hO | (have e : ([⟨62, 3, .slice a5 ((dropV (l.take i.toNat) kk).length) c5, (dropV (l.take i.toNat) kk).length, flat fV (dropV (l.take i.toNat) kk)⟩] : List Own) = [⟨62, 3, .slice a5 ((dropV (l.take (i + 1).toNat) kk).length) c5, (dropV (l.take (i + 1).toNat) kk).length, flat fV (dropV (l.take (i + 1).toNat) kk)⟩] := by first | (rw [dropV_in (by omega) (by assumption)]; try rfl) | (rw [dropV_out (by omega) (by assumption)]; try rfl)) <;> (rw [← e]; exact hO)
     refine hL1 _ _ _ (by omega) ⟨i + 1, a5, c5, rfl, hf.conv (Ac rfl (Ac (by first | (rw [dropV_in (by omega) (by assumption)]; rfl) | (rw [dropV_out (by omega) (by assumption)]; rfl)) (Ac rfl (Ac rfl (Ao rfl))))), hM, hk0, hO, (by omega)⟩
 · have hc1 := (nU hc1r)
   refine wp_exit ?_
   refine hK3 _ _ ?_
   refine wp_seq_k (fun K10 hK10 => ?_)
   refine wp_region_lit ?_
   refine q0 hf hM [4] [{}, {}] (env' := [(4, eS a5 ((dropV (l.take i.toNat) kk).length) c5)]) (ob := []) An ?_
   clear hf; intro a hf
   refine wpList_nil ?_
   refine hK10 _ _ ?_
   refine wp_ret ?_
   refine qr (fn := Tryd.f39) hf hM [] (l := [.slice a5 ((dropV (l.take i.toNat) kk).length) c5]) (ob := []) An ?_
   show ∃ a' c', (.slice a5 ((dropV (l.take i.toNat) kk).length) c5 : Value) = .slice a' (dropV l kk).length c' ∧ Keep Nn w w2 ∧ World.ownsRow w2 w.heap.size 62 3 (.slice a' (dropV l kk).length c') (dropV l kk).length (flat fV (dropV l kk))
   have e : l.take i.toNat = l := List.take_of_length_le (by omega)
   rw [e] at hO
   exact ⟨_, _, by rw [e], hk0, hO.own _ (List.Mem.head _)⟩

set_option maxRecDepth 10000 in
set_option maxHeartbeats 1600000 in
theorem sput (av : Option Addr) (l : List V3) (c : Nat) (k x y : Int) (w : World) (hav : Arr w 3 av l.length c (flat fV l)) (hbav : l.length ≤ 1000000) (hb5 : l.length ≤ 100000) (h0 : firstBad l = 0) (hnd : noDup l = true) (hv : vcheck ⟨k, x, y⟩ = 0) :
    Calls Tryd.prog 35 #[.slice av l.length c, .agg #[iV k, iV x, iV y]] w (Ret fun v w' => ∃ a' c', v = .slice a' (byKinds ((dropV l k) ++ ([⟨k, x, y⟩] : List V3)) 10).length c' ∧ Keep Nn w w' ∧ World.ownsRow w' w.heap.size 62 3 (.slice a' (byKinds ((dropV l k) ++ ([⟨k, x, y⟩] : List V3)) 10).length c') (byKinds ((dropV l k) ++ ([⟨k, x, y⟩] : List V3)) 10).length (flat fV (byKinds ((dropV l k) ++ ([⟨k, x, y⟩] : List V3)) 10))) := by
 refine sxenter (n := 16) (args := [.slice av l.length c, .agg #[iV k, iV x, iV y]]) Tryd.func35 rfl rfl rfl fun a hf => ?_
 replace hf : Fr 16 [(0, eS av l.length c), (1, .val (.agg #[iV k, iV x, iV y]))] a := hf
 have hM : MemOk [] w := MemOk.nil w
 have hk0 : Keep Nn w w := Keep.refl _ _
 have hb0 : firstBad ((dropV l k) ++ ([⟨k, x, y⟩] : List V3)) = 0 := putL_bad (v := ⟨k, x, y⟩) h0 hv
 have hn0 : noDup ((dropV l k) ++ ([⟨k, x, y⟩] : List V3)) = true := putL_nd (v := ⟨k, x, y⟩) hnd
 have hdl := dropV_len l k
 have hbb : (firstBad ((dropV l k) ++ ([⟨k, x, y⟩] : List V3)) == 0) = true := by rw [hb0]; rfl
 refine wp_seq_k (fun K1 hK1 => ?_)
 refine wp_region_lit ?_
 refine q1 hf hM [3, 0] [{ os := [.nw] }, {}] (env' := fun B1 => [(3, eP B1 0), (0, eS av l.length c)]) (M' := fun B1 => [⟨B1, 62, [iV k, iV x, iV y]⟩]) (ob := fun B1 => []) (fun B1 => An) ?_
 clear hf hM; intro a w1 B1 hf hM hB hk
 have hbB1 : w.heap.size ≤ B1 := by have := hk0.size; omega
 have hk0 := hk0.then hk (by intro i _ h; cases h)
 clear hk hB
 refine wpList_nil ?_
 refine hK1 _ _ ?_
 refine wp_seq_k (fun K2 hK2 => ?_)
 replace hM := hM.drew; replace hk0 := hk0.drew
 obtain ⟨C1, hC1d⟩ : ∃ C : World → Prop, C = fun w' => MemOk [⟨B1, 62, [iV k, iV x, iV y]⟩] w' ∧ Keep Nn w w' ∧ True := ⟨_, rfl⟩
 have hC1i : ∀ w', (MemOk [⟨B1, 62, [iV k, iV x, iV y]⟩] w' ∧ Keep Nn w w' ∧ True) → C1 w' := fun w' h => by rw [hC1d]; exact h
 have hC1e : ∀ w', C1 w' → (MemOk [⟨B1, 62, [iV k, iV x, iV y]⟩] w' ∧ Keep Nn w w' ∧ True) := fun w' h => by rw [hC1d] at h; exact h
 refine sxdraw (C := C1) (.alt [(0, true), (1, true), (2, true), (4, true)] (.leaf [(3, false), (5, false), (6, false), (7, true)]) (.leaf [(5, false), (3, false), (6, false), (7, true)])) (by kernel_rfl) (by kernel_rfl) (by as_aux_lemma => kernel_rfl) rfl (by as_aux_lemma => kernel_rfl) (by kernel_rfl) (hC1i _ ⟨hM.sub (.cons_cons _ .slnil), hk0, trivial⟩) ?_
 refine sxalts ?_
 have hC := (hC1i _ ⟨hM.sub (.cons_cons _ .slnil), hk0, trivial⟩)
 refine qd hf hC (fun w' h => (hC1e w' h).1) [10, 8, 6] [{}, {}, { os := [.ld 0 0] }, { os := [.ld 0 0, .ld 0 1, .ld 0 2] }] (env' := [(10, .val (.agg #[iV k, iV x, iV y])), (8, eI k), (6, eS av l.length c)]) (ob := [Ad B1 0, Ad B1 0, Ad B1 1, Ad B1 2]) (Ac (ad _ _) (Ac (ad _ _) (Ac (ad _ _) (Ao (ad _ _))))) ?_
 clear hf; intro a hf
 refine sxboth ?_ ?_
 ·
  refine sxleaf ?_
  have hC := (hC1i _ ⟨hM.sub (.cons_cons _ .slnil), hk0, trivial⟩)
  refine scstep rfl ?_
  refine sxcall hf rfl rfl rfl rfl (g := 36) (vs := [.slice av l.length c, iV k]) (ob := []) (by as_aux_lemma => kernel_rfl) An enters36 (sdrop av l c k w1.drew  (hav.keepNn hk0) (by first | omega | (simp; omega) | (simp; done) | exact Nat.le_trans (byKinds_len _ _) (by omega) | decide)) ?_
  clear hf; rintro _ w2 a ⟨a'1, c'1, rfl, hk, hx1⟩ hf
  have hO : OwnOk w.heap.size [⟨B1, 62, [iV k, iV x, iV y]⟩] [] w1.drew := OwnOk.nil hM
  have hO := hO.more hM hk (by have := hk0.size; omega) hx1
  replace hO : OwnOk w.heap.size [⟨B1, 62, [iV k, iV x, iV y]⟩] [⟨62, 3, .slice a'1 (dropV l k).length c'1, (dropV l k).length, flat fV (dropV l k)⟩] _ := hO
  have hM := hM.keepNn hk
  have hk0 := hk0.trans hk.nn
  clear hk
  have hC := (hC1i _ ⟨hM.sub (.cons_cons _ .slnil), hk0, trivial⟩)
  refine scdone hC ?_
  refine scstep rfl ?_
  refine sxbslice hf hM (t := 23) (e := 62) (len := 1) (cs := [iV k, iV x, iV y]) (ob := []) rfl rfl rfl rfl (by as_aux_lemma => kernel_rfl) An (by as_aux_lemma => kernel_rfl) ?_
  clear hf hM; intro a w3 B2 hf hM hB hk
  replace hM : MemOk [⟨B1, 62, [iV k, iV x, iV y]⟩, ⟨B2, 62, [iV k, iV x, iV y]⟩] w3 := hM
  have hbB2 : w.heap.size ≤ B2 := by have := hk0.size; omega
  have hk0 := hk0.trans hk.nn
  have hO := hO.step hM hk.nn (by intro i h; simp only [Mem.names, List.map_cons, List.map_nil, List.mem_cons, List.not_mem_nil, or_false, List.map_append, List.cons_append, List.nil_append] at h ⊢; omega)
  clear hk hB
  have hC := (hC1i _ ⟨hM.sub (.cons_cons _ (.cons _ .slnil)), hk0, trivial⟩)
  refine scdone hC ?_
  refine scstep rfl ?_
  replace hO : OwnOk w.heap.size [⟨B1, 62, [iV k, iV x, iV y]⟩, ⟨B2, 62, [iV k, iV x, iV y]⟩] [⟨62, 3, .slice a'1 (dropV l k).length c'1, (dropV l k).length, flat fV (dropV l k)⟩] w3 := OwnOk.front (l1 := []) (l2 := []) hO
  refine sxappend hf hM (e := 62) (sz := 3) (by_ := 24) (k := (dropV l k).length) (v := .slice a'1 (dropV l k).length c'1) (xs := flat fV (dropV l k)) hO rfl rfl rfl rfl (av := some ⟨B2, 0, none⟩) (m := 1) (c := 1) rfl rfl Tryd.underlying23 (by kernel_rfl) rfl (news := flat fV ([⟨k, x, y⟩] : List V3)) (Arr.of_memT (sz := 3) (f := fV) (L := ([⟨k, x, y⟩] : List V3)) (l := ([⟨k, x, y⟩] : List V3)) hM (List.Mem.tail _ (List.Mem.head _)) (fun _ => rfl) rfl rfl) (flat_one1 fV_one) (by simp only [maxLen]; constructor <;> (first | omega | (simp; omega))) (by have := hk0.size; omega) ?_
  clear hf hM hO; intro a w4 av1 cv1 hf hM hO hk
  have en : ((dropV l k).length + 1 : Nat) = ((dropV l k) ++ ([⟨k, x, y⟩] : List V3)).length := (by simp)
  have ec : flat fV (dropV l k) ++ flat fV ([⟨k, x, y⟩] : List V3) = flat fV ((dropV l k) ++ ([⟨k, x, y⟩] : List V3)) := (by simp [flat_app, flat_nil])
  rw [en] at hf hO; rw [ec] at hO; clear en ec
  replace hO : OwnOk w.heap.size [⟨B1, 62, [iV k, iV x, iV y]⟩, ⟨B2, 62, [iV k, iV x, iV y]⟩] [⟨62, 3, .slice av1 (((dropV l k) ++ ([⟨k, x, y⟩] : List V3)).length) cv1, ((dropV l k) ++ ([⟨k, x, y⟩] : List V3)).length, flat fV ((dropV l k) ++ ([⟨k, x, y⟩] : List V3))⟩] w4 := hO
  have hk0 := hk0.then hk (by intro i hi h; have := h.1; omega)
  clear hk
  have hC := (hC1i _ ⟨hM.sub (.cons_cons _ (.cons _ .slnil)), hk0, trivial⟩)
  refine scdone hC ?_
  refine qd hf hC (fun w' h => (hC1e w' h).1) [5] [{}] (env' := [(5, eS av1 (((dropV l k) ++ ([⟨k, x, y⟩] : List V3)).length) cv1)]) (ob := []) An ?_
  clear hf; intro a hf
  clear hC
  show K2 _ _
  refine hK2 _ _ ?_
  refine wp_seq_k (fun K3 hK3 => ?_)
  refine wp_region_lit ?_
  refine q0 hf hM [13, 5] [{}] (env' := [(13, eS av1 (((dropV l k) ++ ([⟨k, x, y⟩] : List V3)).length) cv1), (5, eS av1 (((dropV l k) ++ ([⟨k, x, y⟩] : List V3)).length) cv1)]) (ob := []) An ?_
  clear hf; intro a hf
  replace hO : OwnOk w.heap.size [⟨B1, 62, [iV k, iV x, iV y]⟩, ⟨B2, 62, [iV k, iV x, iV y]⟩] [⟨62, 3, .slice av1 (((dropV l k) ++ ([⟨k, x, y⟩] : List V3)).length) cv1, ((dropV l k) ++ ([⟨k, x, y⟩] : List V3)).length, flat fV ((dropV l k) ++ ([⟨k, x, y⟩] : List V3))⟩] w4 := OwnOk.front (l1 := []) (l2 := []) hO
  refine sxcall hf rfl rfl rfl rfl (g := 73) (vs := [.slice av1 (((dropV l k) ++ ([⟨k, x, y⟩] : List V3)).length) cv1, .func (.func 74) #[] #[]]) (ob := []) (by as_aux_lemma => kernel_rfl) An enters73 (sort_val (hO.own _ (List.Mem.head _)) (by simp; omega)) ?_
  clear hf; rintro _ w5 a ⟨rfl, ls1, hpm1, hsd1, hx, hk⟩ hf
  have hM := hO.memTurn hM hk; have hO := hO.turn hk hx; have hk0 := hk0.then hk (by intro i hi h; have := ((hO.own _ (List.Mem.head _)).lt i h).1; omega); clear hk hx
  have hlls1 : ((dropV l k) ++ ([⟨k, x, y⟩] : List V3)).length = ls1.length := hpm1.length_eq.symm
  rw [hlls1] at hf hO
  have hf := hf.prune [14, 13, 5]
  replace hf : Fr 16 [(14, .val (.tuple #[])), (13, eS av1 ls1.length cv1), (5, eS av1 ls1.length cv1)] a := hf
  replace hO : OwnOk w.heap.size [⟨B1, 62, [iV k, iV x, iV y]⟩, ⟨B2, 62, [iV k, iV x, iV y]⟩] [⟨62, 3, .slice av1 ls1.length cv1, ls1.length, flat fV ls1⟩] w5 := hO
  refine wpList_nil ?_
  refine hK3 _ _ ?_
  refine wp_seq_k (fun K4 hK4 => ?_)
  refine wp_region_lit ?_
  refine q0 hf hM [4] [{}, {}] (env' := [(4, eS av1 ls1.length cv1)]) (ob := []) An ?_
  clear hf; intro a hf
  refine wpList_nil ?_
  refine hK4 _ _ ?_
  refine wp_ret ?_
  refine qr (fn := Tryd.f35) hf hM [] (l := [.slice av1 ls1.length cv1]) (ob := []) An ?_
  show ∃ a' c', (.slice av1 ls1.length cv1 : Value) = .slice a' (byKinds ((dropV l k) ++ ([⟨k, x, y⟩] : List V3)) 10).length c' ∧ Keep Nn w w5 ∧ World.ownsRow w5 w.heap.size 62 3 (.slice a' (byKinds ((dropV l k) ++ ([⟨k, x, y⟩] : List V3)) 10).length c') (byKinds ((dropV l k) ++ ([⟨k, x, y⟩] : List V3)) 10).length (flat fV (byKinds ((dropV l k) ++ ([⟨k, x, y⟩] : List V3)) 10))
  have e := sorted_eq hpm1 hsd1 hb0 hn0
  subst e
  exact ⟨_, _, rfl, hk0, hO.own _ (List.Mem.head _)⟩
 ·
  refine sxleaf ?_
  have hC := (hC1i _ ⟨hM.sub (.cons_cons _ .slnil), hk0, trivial⟩)
  refine scstep rfl ?_
  refine sxbslice hf hM (t := 23) (e := 62) (len := 1) (cs := [iV k, iV x, iV y]) (ob := []) rfl rfl rfl rfl (by as_aux_lemma => kernel_rfl) An (by as_aux_lemma => kernel_rfl) ?_
  clear hf hM; intro a w6 B5 hf hM hB hk
  replace hM : MemOk [⟨B1, 62, [iV k, iV x, iV y]⟩, ⟨B5, 62, [iV k, iV x, iV y]⟩] w6 := hM
  have hbB5 : w.heap.size ≤ B5 := by have := hk0.size; omega
  have hk0 := hk0.trans hk.nn
  clear hk hB
  have hC := (hC1i _ ⟨hM.sub (.cons_cons _ (.cons _ .slnil)), hk0, trivial⟩)
  refine scdone hC ?_
  refine scstep rfl ?_
  refine sxcall hf rfl rfl rfl rfl (g := 36) (vs := [.slice av l.length c, iV k]) (ob := []) (by as_aux_lemma => kernel_rfl) An enters36 (sdrop av l c k w6  (hav.keepNn hk0) (by first | omega | (simp; omega) | (simp; done) | exact Nat.le_trans (byKinds_len _ _) (by omega) | decide)) ?_
  clear hf; rintro _ w7 a ⟨a'2, c'2, rfl, hk, hx2⟩ hf
  have hO : OwnOk w.heap.size [⟨B1, 62, [iV k, iV x, iV y]⟩, ⟨B5, 62, [iV k, iV x, iV y]⟩] [] w6 := OwnOk.nil hM
  have hO := hO.more hM hk (by have := hk0.size; omega) hx2
  replace hO : OwnOk w.heap.size [⟨B1, 62, [iV k, iV x, iV y]⟩, ⟨B5, 62, [iV k, iV x, iV y]⟩] [⟨62, 3, .slice a'2 (dropV l k).length c'2, (dropV l k).length, flat fV (dropV l k)⟩] _ := hO
  have hM := hM.keepNn hk
  have hk0 := hk0.trans hk.nn
  clear hk
  have hC := (hC1i _ ⟨hM.sub (.cons_cons _ (.cons _ .slnil)), hk0, trivial⟩)
  refine scdone hC ?_
  refine scstep rfl ?_
  replace hO : OwnOk w.heap.size [⟨B1, 62, [iV k, iV x, iV y]⟩, ⟨B5, 62, [iV k, iV x, iV y]⟩] [⟨62, 3, .slice a'2 (dropV l k).length c'2, (dropV l k).length, flat fV (dropV l k)⟩] w7 := OwnOk.front (l1 := []) (l2 := []) hO
  refine sxappend hf hM (e := 62) (sz := 3) (by_ := 24) (k := (dropV l k).length) (v := .slice a'2 (dropV l k).length c'2) (xs := flat fV (dropV l k)) hO rfl rfl rfl rfl (av := some ⟨B5, 0, none⟩) (m := 1) (c := 1) rfl rfl Tryd.underlying23 (by kernel_rfl) rfl (news := flat fV ([⟨k, x, y⟩] : List V3)) (Arr.of_memT (sz := 3) (f := fV) (L := ([⟨k, x, y⟩] : List V3)) (l := ([⟨k, x, y⟩] : List V3)) hM (List.Mem.tail _ (List.Mem.head _)) (fun _ => rfl) rfl rfl) (flat_one1 fV_one) (by simp only [maxLen]; constructor <;> (first | omega | (simp; omega))) (by have := hk0.size; omega) ?_
  clear hf hM hO; intro a w8 av2 cv2 hf hM hO hk
  have en : ((dropV l k).length + 1 : Nat) = ((dropV l k) ++ ([⟨k, x, y⟩] : List V3)).length := (by simp)
  have ec : flat fV (dropV l k) ++ flat fV ([⟨k, x, y⟩] : List V3) = flat fV ((dropV l k) ++ ([⟨k, x, y⟩] : List V3)) := (by simp [flat_app, flat_nil])
  rw [en] at hf hO; rw [ec] at hO; clear en ec
  replace hO : OwnOk w.heap.size [⟨B1, 62, [iV k, iV x, iV y]⟩, ⟨B5, 62, [iV k, iV x, iV y]⟩] [⟨62, 3, .slice av2 (((dropV l k) ++ ([⟨k, x, y⟩] : List V3)).length) cv2, ((dropV l k) ++ ([⟨k, x, y⟩] : List V3)).length, flat fV ((dropV l k) ++ ([⟨k, x, y⟩] : List V3))⟩] w8 := hO
  have hk0 := hk0.then hk (by intro i hi h; have := h.1; omega)
  clear hk
  have hC := (hC1i _ ⟨hM.sub (.cons_cons _ (.cons _ .slnil)), hk0, trivial⟩)
  refine scdone hC ?_
  refine qd hf hC (fun w' h => (hC1e w' h).1) [5] [{}] (env' := [(5, eS av2 (((dropV l k) ++ ([⟨k, x, y⟩] : List V3)).length) cv2)]) (ob := []) An ?_
  clear hf; intro a hf
  clear hC
  show K2 _ _
  refine hK2 _ _ ?_
  refine wp_seq_k (fun K5 hK5 => ?_)
  refine wp_region_lit ?_
  refine q0 hf hM [13, 5] [{}] (env' := [(13, eS av2 (((dropV l k) ++ ([⟨k, x, y⟩] : List V3)).length) cv2), (5, eS av2 (((dropV l k) ++ ([⟨k, x, y⟩] : List V3)).length) cv2)]) (ob := []) An ?_
  clear hf; intro a hf
  replace hO : OwnOk w.heap.size [⟨B1, 62, [iV k, iV x, iV y]⟩, ⟨B5, 62, [iV k, iV x, iV y]⟩] [⟨62, 3, .slice av2 (((dropV l k) ++ ([⟨k, x, y⟩] : List V3)).length) cv2, ((dropV l k) ++ ([⟨k, x, y⟩] : List V3)).length, flat fV ((dropV l k) ++ ([⟨k, x, y⟩] : List V3))⟩] w8 := OwnOk.front (l1 := []) (l2 := []) hO
  refine sxcall hf rfl rfl rfl rfl (g := 73) (vs := [.slice av2 (((dropV l k) ++ ([⟨k, x, y⟩] : List V3)).length) cv2, .func (.func 74) #[] #[]]) (ob := []) (by as_aux_lemma => kernel_rfl) An enters73 (sort_val (hO.own _ (List.Mem.head _)) (by simp; omega)) ?_
  clear hf; rintro _ w9 a ⟨rfl, ls2, hpm2, hsd2, hx, hk⟩ hf
  have hM := hO.memTurn hM hk; have hO := hO.turn hk hx; have hk0 := hk0.then hk (by intro i hi h; have := ((hO.own _ (List.Mem.head _)).lt i h).1; omega); clear hk hx
  have hlls2 : ((dropV l k) ++ ([⟨k, x, y⟩] : List V3)).length = ls2.length := hpm2.length_eq.symm
  rw [hlls2] at hf hO
  have hf := hf.prune [14, 13, 5]
  replace hf : Fr 16 [(14, .val (.tuple #[])), (13, eS av2 ls2.length cv2), (5, eS av2 ls2.length cv2)] a := hf
  replace hO : OwnOk w.heap.size [⟨B1, 62, [iV k, iV x, iV y]⟩, ⟨B5, 62, [iV k, iV x, iV y]⟩] [⟨62, 3, .slice av2 ls2.length cv2, ls2.length, flat fV ls2⟩] w9 := hO
  refine wpList_nil ?_
  refine hK5 _ _ ?_
  refine wp_seq_k (fun K6 hK6 => ?_)
  refine wp_region_lit ?_
  refine q0 hf hM [4] [{}, {}] (env' := [(4, eS av2 ls2.length cv2)]) (ob := []) An ?_
  clear hf; intro a hf
  refine wpList_nil ?_
  refine hK6 _ _ ?_
  refine wp_ret ?_
  refine qr (fn := Tryd.f35) hf hM [] (l := [.slice av2 ls2.length cv2]) (ob := []) An ?_
  show ∃ a' c', (.slice av2 ls2.length cv2 : Value) = .slice a' (byKinds ((dropV l k) ++ ([⟨k, x, y⟩] : List V3)) 10).length c' ∧ Keep Nn w w9 ∧ World.ownsRow w9 w.heap.size 62 3 (.slice a' (byKinds ((dropV l k) ++ ([⟨k, x, y⟩] : List V3)) 10).length c') (byKinds ((dropV l k) ++ ([⟨k, x, y⟩] : List V3)) 10).length (flat fV (byKinds ((dropV l k) ++ ([⟨k, x, y⟩] : List V3)) 10))
  have e := sorted_eq hpm2 hsd2 hb0 hn0
  subst e
  exact ⟨_, _, rfl, hk0, hO.own _ (List.Mem.head _)⟩

set_option maxRecDepth 10000 in
set_option maxHeartbeats 1600000 in
theorem rput (av : Option Addr) (l : List V3) (c : Nat) (k x y : Int) (w : World) (hav : Arr w 3 av l.length c (flat fV l)) (hbav : l.length ≤ 1000000) (hb5 : l.length ≤ 100000) (h0 : firstBad l = 0) (hnd : noDup l = true) (hv : vcheck ⟨k, x, y⟩ = 0) :
    Calls Tryd.prog 38 #[.slice av l.length c, .agg #[iV k, iV x, iV y]] w (Ret fun v w' => ∃ a' c', v = .slice a' (byKinds ((dropV l k) ++ ([⟨k, x, y⟩] : List V3)) 10).length c' ∧ Keep Nn w w' ∧ World.ownsRow w' w.heap.size 62 3 (.slice a' (byKinds ((dropV l k) ++ ([⟨k, x, y⟩] : List V3)) 10).length c') (byKinds ((dropV l k) ++ ([⟨k, x, y⟩] : List V3)) 10).length (flat fV (byKinds ((dropV l k) ++ ([⟨k, x, y⟩] : List V3)) 10))) := by
 refine sxenter (n := 19) (args := [.slice av l.length c, .agg #[iV k, iV x, iV y]]) Tryd.func38 rfl rfl rfl fun a hf => ?_
 replace hf : Fr 19 [(0, eS av l.length c), (1, .val (.agg #[iV k, iV x, iV y]))] a := hf
 have hM : MemOk [] w := MemOk.nil w
 have hk0 : Keep Nn w w := Keep.refl _ _
 have hb0 : firstBad ((dropV l k) ++ ([⟨k, x, y⟩] : List V3)) = 0 := putL_bad (v := ⟨k, x, y⟩) h0 hv
 have hn0 : noDup ((dropV l k) ++ ([⟨k, x, y⟩] : List V3)) = true := putL_nd (v := ⟨k, x, y⟩) hnd
 have hdl := dropV_len l k
 have hbb : (firstBad ((dropV l k) ++ ([⟨k, x, y⟩] : List V3)) == 0) = true := by rw [hb0]; rfl
 refine wp_seq_k (fun K1 hK1 => ?_)
 refine wp_region_lit ?_
 refine q1 hf hM [3, 0] [{ os := [.nw] }, {}] (env' := fun B1 => [(3, eP B1 0), (0, eS av l.length c)]) (M' := fun B1 => [⟨B1, 62, [iV k, iV x, iV y]⟩]) (ob := fun B1 => []) (fun B1 => An) ?_
 clear hf hM; intro a w1 B1 hf hM hB hk
 have hbB1 : w.heap.size ≤ B1 := by have := hk0.size; omega
 have hk0 := hk0.then hk (by intro i _ h; cases h)
 clear hk hB
 refine wpList_nil ?_
 refine hK1 _ _ ?_
 refine wp_seq_k (fun K2 hK2 => ?_)
 replace hM := hM.drew; replace hk0 := hk0.drew
 obtain ⟨C1, hC1d⟩ : ∃ C : World → Prop, C = fun w' => MemOk [⟨B1, 62, [iV k, iV x, iV y]⟩] w' ∧ Keep Nn w w' ∧ True := ⟨_, rfl⟩
 have hC1i : ∀ w', (MemOk [⟨B1, 62, [iV k, iV x, iV y]⟩] w' ∧ Keep Nn w w' ∧ True) → C1 w' := fun w' h => by rw [hC1d]; exact h
 have hC1e : ∀ w', C1 w' → (MemOk [⟨B1, 62, [iV k, iV x, iV y]⟩] w' ∧ Keep Nn w w' ∧ True) := fun w' h => by rw [hC1d] at h; exact h
 refine sxdraw (C := C1) (.alt [(0, true), (1, true), (2, true), (4, true)] (.leaf [(3, false), (5, false), (6, false), (7, false), (8, true), (9, true), (10, true), (11, true), (12, true)]) (.leaf [(5, false), (3, false), (6, false), (7, false), (8, true), (9, true), (10, true), (11, true), (12, true)])) (by kernel_rfl) (by kernel_rfl) (by as_aux_lemma => kernel_rfl) rfl (by as_aux_lemma => kernel_rfl) (by kernel_rfl) (hC1i _ ⟨hM.sub (.cons_cons _ .slnil), hk0, trivial⟩) ?_
 refine sxalts ?_
 have hC := (hC1i _ ⟨hM.sub (.cons_cons _ .slnil), hk0, trivial⟩)
 refine qd hf hC (fun w' h => (hC1e w' h).1) [12, 10, 8] [{}, {}, { os := [.ld 0 0] }, { os := [.ld 0 0, .ld 0 1, .ld 0 2] }] (env' := [(12, .val (.agg #[iV k, iV x, iV y])), (10, eI k), (8, eS av l.length c)]) (ob := [Ad B1 0, Ad B1 0, Ad B1 1, Ad B1 2]) (Ac (ad _ _) (Ac (ad _ _) (Ac (ad _ _) (Ao (ad _ _))))) ?_
 clear hf; intro a hf
 refine sxboth ?_ ?_
 ·
  refine sxleaf ?_
  have hC := (hC1i _ ⟨hM.sub (.cons_cons _ .slnil), hk0, trivial⟩)
  refine scstep rfl ?_
  refine sxcall hf rfl rfl rfl rfl (g := 39) (vs := [.slice av l.length c, iV k]) (ob := []) (by as_aux_lemma => kernel_rfl) An enters39 (rdrop av l c k w1.drew  (hav.keepNn hk0) (by first | omega | (simp; omega) | (simp; done) | exact Nat.le_trans (byKinds_len _ _) (by omega) | decide)) ?_
  clear hf; rintro _ w2 a ⟨a'1, c'1, rfl, hk, hx1⟩ hf
  have hO : OwnOk w.heap.size [⟨B1, 62, [iV k, iV x, iV y]⟩] [] w1.drew := OwnOk.nil hM
  have hO := hO.more hM hk (by have := hk0.size; omega) hx1
  replace hO : OwnOk w.heap.size [⟨B1, 62, [iV k, iV x, iV y]⟩] [⟨62, 3, .slice a'1 (dropV l k).length c'1, (dropV l k).length, flat fV (dropV l k)⟩] _ := hO
  have hM := hM.keepNn hk
  have hk0 := hk0.trans hk.nn
  clear hk
  have hC := (hC1i _ ⟨hM.sub (.cons_cons _ .slnil), hk0, trivial⟩)
  refine scdone hC ?_
  refine scstep rfl ?_
  refine sxbslice hf hM (t := 23) (e := 62) (len := 1) (cs := [iV k, iV x, iV y]) (ob := []) rfl rfl rfl rfl (by as_aux_lemma => kernel_rfl) An (by as_aux_lemma => kernel_rfl) ?_
  clear hf hM; intro a w3 B2 hf hM hB hk
  replace hM : MemOk [⟨B1, 62, [iV k, iV x, iV y]⟩, ⟨B2, 62, [iV k, iV x, iV y]⟩] w3 := hM
  have hbB2 : w.heap.size ≤ B2 := by have := hk0.size; omega
  have hk0 := hk0.trans hk.nn
  have hO := hO.step hM hk.nn (by intro i h; simp only [Mem.names, List.map_cons, List.map_nil, List.mem_cons, List.not_mem_nil, or_false, List.map_append, List.cons_append, List.nil_append] at h ⊢; omega)
  clear hk hB
  have hC := (hC1i _ ⟨hM.sub (.cons_cons _ (.cons _ .slnil)), hk0, trivial⟩)
  refine scdone hC ?_
  refine scstep rfl ?_
  replace hO : OwnOk w.heap.size [⟨B1, 62, [iV k, iV x, iV y]⟩, ⟨B2, 62, [iV k, iV x, iV y]⟩] [⟨62, 3, .slice a'1 (dropV l k).length c'1, (dropV l k).length, flat fV (dropV l k)⟩] w3 := OwnOk.front (l1 := []) (l2 := []) hO
  refine sxappend hf hM (e := 62) (sz := 3) (by_ := 24) (k := (dropV l k).length) (v := .slice a'1 (dropV l k).length c'1) (xs := flat fV (dropV l k)) hO rfl rfl rfl rfl (av := some ⟨B2, 0, none⟩) (m := 1) (c := 1) rfl rfl Tryd.underlying23 (by kernel_rfl) rfl (news := flat fV ([⟨k, x, y⟩] : List V3)) (Arr.of_memT (sz := 3) (f := fV) (L := ([⟨k, x, y⟩] : List V3)) (l := ([⟨k, x, y⟩] : List V3)) hM (List.Mem.tail _ (List.Mem.head _)) (fun _ => rfl) rfl rfl) (flat_one1 fV_one) (by simp only [maxLen]; constructor <;> (first | omega | (simp; omega))) (by have := hk0.size; omega) ?_
  clear hf hM hO; intro a w4 av1 cv1 hf hM hO hk
  have en : ((dropV l k).length + 1 : Nat) = ((dropV l k) ++ ([⟨k, x, y⟩] : List V3)).length := (by simp)
  have ec : flat fV (dropV l k) ++ flat fV ([⟨k, x, y⟩] : List V3) = flat fV ((dropV l k) ++ ([⟨k, x, y⟩] : List V3)) := (by simp [flat_app, flat_nil])
  rw [en] at hf hO; rw [ec] at hO; clear en ec
  replace hO : OwnOk w.heap.size [⟨B1, 62, [iV k, iV x, iV y]⟩, ⟨B2, 62, [iV k, iV x, iV y]⟩] [⟨62, 3, .slice av1 (((dropV l k) ++ ([⟨k, x, y⟩] : List V3)).length) cv1, ((dropV l k) ++ ([⟨k, x, y⟩] : List V3)).length, flat fV ((dropV l k) ++ ([⟨k, x, y⟩] : List V3))⟩] w4 := hO
  have hk0 := hk0.then hk (by intro i hi h; have := h.1; omega)
  clear hk
  have hC := (hC1i _ ⟨hM.sub (.cons_cons _ (.cons _ .slnil)), hk0, trivial⟩)
  refine scdone hC ?_
  refine scstep rfl ?_
  refine sxcall hf rfl rfl rfl rfl (g := 33) (vs := [.slice av1 (((dropV l k) ++ ([⟨k, x, y⟩] : List V3)).length) cv1]) (ob := []) (by as_aux_lemma => kernel_rfl) An enters33 (rrow_ok av1 ((dropV l k) ++ ([⟨k, x, y⟩] : List V3)) cv1 w4 hbb hn0 (own_arr (hO.own _ (List.Mem.head _))) (by first | omega | (simp; omega) | (simp; done) | exact Nat.le_trans (byKinds_len _ _) (by omega) | decide)) ?_
  clear hf; rintro _ w5 a ⟨a'2, c'2, rfl, hk, hx2⟩ hf
  have hO := hO.more hM hk (by have := hk0.size; omega) hx2
  replace hO : OwnOk w.heap.size [⟨B1, 62, [iV k, iV x, iV y]⟩, ⟨B2, 62, [iV k, iV x, iV y]⟩] [⟨62, 3, .slice a'2 ((byKinds ((dropV l k) ++ ([⟨k, x, y⟩] : List V3)) 10).length) c'2, (byKinds ((dropV l k) ++ ([⟨k, x, y⟩] : List V3)) 10).length, flat fV (byKinds ((dropV l k) ++ ([⟨k, x, y⟩] : List V3)) 10)⟩, ⟨62, 3, .slice av1 (((dropV l k) ++ ([⟨k, x, y⟩] : List V3)).length) cv1, ((dropV l k) ++ ([⟨k, x, y⟩] : List V3)).length, flat fV ((dropV l k) ++ ([⟨k, x, y⟩] : List V3))⟩] _ := hO
  have hM := hM.keepNn hk
  have hk0 := hk0.trans hk.nn
  clear hk
  have hC := (hC1i _ ⟨hM.sub (.cons_cons _ (.cons _ .slnil)), hk0, trivial⟩)
  refine scdone hC ?_
  refine qd hf hC (fun w' h => (hC1e w' h).1) [5] [{}, {}, {}, {}, {}] (env' := [(5, eS a'2 ((byKinds ((dropV l k) ++ ([⟨k, x, y⟩] : List V3)) 10).length) c'2)]) (ob := []) An ?_
  clear hf; intro a hf
  clear hC
  show K2 _ _
  refine hK2 _ _ ?_
  refine wp_seq_k (fun K3 hK3 => ?_)
  refine wp_region_lit ?_
  refine q0 hf hM [4] [{}, {}] (env' := [(4, eS a'2 ((byKinds ((dropV l k) ++ ([⟨k, x, y⟩] : List V3)) 10).length) c'2)]) (ob := []) An ?_
  clear hf; intro a hf
  refine wpList_nil ?_
  refine hK3 _ _ ?_
  refine wp_ret ?_
  refine qr (fn := Tryd.f38) hf hM [] (l := [.slice a'2 ((byKinds ((dropV l k) ++ ([⟨k, x, y⟩] : List V3)) 10).length) c'2]) (ob := []) An ?_
  show ∃ a' c', (.slice a'2 ((byKinds ((dropV l k) ++ ([⟨k, x, y⟩] : List V3)) 10).length) c'2 : Value) = .slice a' (byKinds ((dropV l k) ++ ([⟨k, x, y⟩] : List V3)) 10).length c' ∧ Keep Nn w w5 ∧ World.ownsRow w5 w.heap.size 62 3 (.slice a' (byKinds ((dropV l k) ++ ([⟨k, x, y⟩] : List V3)) 10).length c') (byKinds ((dropV l k) ++ ([⟨k, x, y⟩] : List V3)) 10).length (flat fV (byKinds ((dropV l k) ++ ([⟨k, x, y⟩] : List V3)) 10))
  exact ⟨_, _, rfl, hk0, hO.own _ (List.Mem.head _)⟩
 ·
  refine sxleaf ?_
  have hC := (hC1i _ ⟨hM.sub (.cons_cons _ .slnil), hk0, trivial⟩)
  refine scstep rfl ?_
  refine sxbslice hf hM (t := 23) (e := 62) (len := 1) (cs := [iV k, iV x, iV y]) (ob := []) rfl rfl rfl rfl (by as_aux_lemma => kernel_rfl) An (by as_aux_lemma => kernel_rfl) ?_
  clear hf hM; intro a w6 B4 hf hM hB hk
  replace hM : MemOk [⟨B1, 62, [iV k, iV x, iV y]⟩, ⟨B4, 62, [iV k, iV x, iV y]⟩] w6 := hM
  have hbB4 : w.heap.size ≤ B4 := by have := hk0.size; omega
  have hk0 := hk0.trans hk.nn
  clear hk hB
  have hC := (hC1i _ ⟨hM.sub (.cons_cons _ (.cons _ .slnil)), hk0, trivial⟩)
  refine scdone hC ?_
  refine scstep rfl ?_
  refine sxcall hf rfl rfl rfl rfl (g := 39) (vs := [.slice av l.length c, iV k]) (ob := []) (by as_aux_lemma => kernel_rfl) An enters39 (rdrop av l c k w6  (hav.keepNn hk0) (by first | omega | (simp; omega) | (simp; done) | exact Nat.le_trans (byKinds_len _ _) (by omega) | decide)) ?_
  clear hf; rintro _ w7 a ⟨a'3, c'3, rfl, hk, hx3⟩ hf
  have hO : OwnOk w.heap.size [⟨B1, 62, [iV k, iV x, iV y]⟩, ⟨B4, 62, [iV k, iV x, iV y]⟩] [] w6 := OwnOk.nil hM
  have hO := hO.more hM hk (by have := hk0.size; omega) hx3
  replace hO : OwnOk w.heap.size [⟨B1, 62, [iV k, iV x, iV y]⟩, ⟨B4, 62, [iV k, iV x, iV y]⟩] [⟨62, 3, .slice a'3 (dropV l k).length c'3, (dropV l k).length, flat fV (dropV l k)⟩] _ := hO
  have hM := hM.keepNn hk
  have hk0 := hk0.trans hk.nn
  clear hk
  have hC := (hC1i _ ⟨hM.sub (.cons_cons _ (.cons _ .slnil)), hk0, trivial⟩)
  refine scdone hC ?_
  refine scstep rfl ?_
  replace hO : OwnOk w.heap.size [⟨B1, 62, [iV k, iV x, iV y]⟩, ⟨B4, 62, [iV k, iV x, iV y]⟩] [⟨62, 3, .slice a'3 (dropV l k).length c'3, (dropV l k).length, flat fV (dropV l k)⟩] w7 := OwnOk.front (l1 := []) (l2 := []) hO
  refine sxappend hf hM (e := 62) (sz := 3) (by_ := 24) (k := (dropV l k).length) (v := .slice a'3 (dropV l k).length c'3) (xs := flat fV (dropV l k)) hO rfl rfl rfl rfl (av := some ⟨B4, 0, none⟩) (m := 1) (c := 1) rfl rfl Tryd.underlying23 (by kernel_rfl) rfl (news := flat fV ([⟨k, x, y⟩] : List V3)) (Arr.of_memT (sz := 3) (f := fV) (L := ([⟨k, x, y⟩] : List V3)) (l := ([⟨k, x, y⟩] : List V3)) hM (List.Mem.tail _ (List.Mem.head _)) (fun _ => rfl) rfl rfl) (flat_one1 fV_one) (by simp only [maxLen]; constructor <;> (first | omega | (simp; omega))) (by have := hk0.size; omega) ?_
  clear hf hM hO; intro a w8 av2 cv2 hf hM hO hk
  have en : ((dropV l k).length + 1 : Nat) = ((dropV l k) ++ ([⟨k, x, y⟩] : List V3)).length := (by simp)
  have ec : flat fV (dropV l k) ++ flat fV ([⟨k, x, y⟩] : List V3) = flat fV ((dropV l k) ++ ([⟨k, x, y⟩] : List V3)) := (by simp [flat_app, flat_nil])
  rw [en] at hf hO; rw [ec] at hO; clear en ec
  replace hO : OwnOk w.heap.size [⟨B1, 62, [iV k, iV x, iV y]⟩, ⟨B4, 62, [iV k, iV x, iV y]⟩] [⟨62, 3, .slice av2 (((dropV l k) ++ ([⟨k, x, y⟩] : List V3)).length) cv2, ((dropV l k) ++ ([⟨k, x, y⟩] : List V3)).length, flat fV ((dropV l k) ++ ([⟨k, x, y⟩] : List V3))⟩] w8 := hO
  have hk0 := hk0.then hk (by intro i hi h; have := h.1; omega)
  clear hk
  have hC := (hC1i _ ⟨hM.sub (.cons_cons _ (.cons _ .slnil)), hk0, trivial⟩)
  refine scdone hC ?_
  refine scstep rfl ?_
  refine sxcall hf rfl rfl rfl rfl (g := 33) (vs := [.slice av2 (((dropV l k) ++ ([⟨k, x, y⟩] : List V3)).length) cv2]) (ob := []) (by as_aux_lemma => kernel_rfl) An enters33 (rrow_ok av2 ((dropV l k) ++ ([⟨k, x, y⟩] : List V3)) cv2 w8 hbb hn0 (own_arr (hO.own _ (List.Mem.head _))) (by first | omega | (simp; omega) | (simp; done) | exact Nat.le_trans (byKinds_len _ _) (by omega) | decide)) ?_
  clear hf; rintro _ w9 a ⟨a'4, c'4, rfl, hk, hx4⟩ hf
  have hO := hO.more hM hk (by have := hk0.size; omega) hx4
  replace hO : OwnOk w.heap.size [⟨B1, 62, [iV k, iV x, iV y]⟩, ⟨B4, 62, [iV k, iV x, iV y]⟩] [⟨62, 3, .slice a'4 ((byKinds ((dropV l k) ++ ([⟨k, x, y⟩] : List V3)) 10).length) c'4, (byKinds ((dropV l k) ++ ([⟨k, x, y⟩] : List V3)) 10).length, flat fV (byKinds ((dropV l k) ++ ([⟨k, x, y⟩] : List V3)) 10)⟩, ⟨62, 3, .slice av2 (((dropV l k) ++ ([⟨k, x, y⟩] : List V3)).length) cv2, ((dropV l k) ++ ([⟨k, x, y⟩] : List V3)).length, flat fV ((dropV l k) ++ ([⟨k, x, y⟩] : List V3))⟩] _ := hO
  have hM := hM.keepNn hk
  have hk0 := hk0.trans hk.nn
  clear hk
  have hC := (hC1i _ ⟨hM.sub (.cons_cons _ (.cons _ .slnil)), hk0, trivial⟩)
  refine scdone hC ?_
  refine qd hf hC (fun w' h => (hC1e w' h).1) [5] [{}, {}, {}, {}, {}] (env' := [(5, eS a'4 ((byKinds ((dropV l k) ++ ([⟨k, x, y⟩] : List V3)) 10).length) c'4)]) (ob := []) An ?_
  clear hf; intro a hf
  clear hC
  show K2 _ _
  refine hK2 _ _ ?_
  refine wp_seq_k (fun K4 hK4 => ?_)
  refine wp_region_lit ?_
  refine q0 hf hM [4] [{}, {}] (env' := [(4, eS a'4 ((byKinds ((dropV l k) ++ ([⟨k, x, y⟩] : List V3)) 10).length) c'4)]) (ob := []) An ?_
  clear hf; intro a hf
  refine wpList_nil ?_
  refine hK4 _ _ ?_
  refine wp_ret ?_
  refine qr (fn := Tryd.f38) hf hM [] (l := [.slice a'4 ((byKinds ((dropV l k) ++ ([⟨k, x, y⟩] : List V3)) 10).length) c'4]) (ob := []) An ?_
  show ∃ a' c', (.slice a'4 ((byKinds ((dropV l k) ++ ([⟨k, x, y⟩] : List V3)) 10).length) c'4 : Value) = .slice a' (byKinds ((dropV l k) ++ ([⟨k, x, y⟩] : List V3)) 10).length c' ∧ Keep Nn w w9 ∧ World.ownsRow w9 w.heap.size 62 3 (.slice a' (byKinds ((dropV l k) ++ ([⟨k, x, y⟩] : List V3)) 10).length c') (byKinds ((dropV l k) ++ ([⟨k, x, y⟩] : List V3)) 10).length (flat fV (byKinds ((dropV l k) ++ ([⟨k, x, y⟩] : List V3)) 10))
  exact ⟨_, _, rfl, hk0, hO.own _ (List.Mem.head _)⟩
end Go.Proofs.YtifcgjnknikjkaaDoor
