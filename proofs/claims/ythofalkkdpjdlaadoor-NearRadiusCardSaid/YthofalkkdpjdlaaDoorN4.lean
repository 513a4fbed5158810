/- layer 12: a walk of what turns in whatever way -/
import Derived.Test.YthofalkkdpjdlaaDoorR6
namespace Go.Proofs.YthofalkkdpjdlaaDoor
open Go.Px
set_option linter.unusedVariables false
set_option linter.unusedSimpArgs false

set_option maxRecDepth 10000 in
set_option maxHeartbeats 1600000 in
theorem twalkS (base T : Nat) (Bl : List Nat) (bs : List (H2 × B4)) (Y : C3 → Prop) {σ : Type} (R : σ → List (H2 × B4) → List (H2 × B4) → Own) (s0 : σ) (g1 g2 : Nat) (f1 f2 : List Value) (w : World) (hown : (oTree 72 68 T Bl bs).φ base w) (hap : ∀ i ∈ Bl, ¬ i ∈ (R s0 [] []).B) (hR : (R s0 [] []).φ base w) (hRd : (R s0 [] []).B.Nodup) (hbw : base ≤ w.heap.size) (hRB : ∀ sg vis blk blk2, (R sg vis blk).B = (R sg vis blk2).B) (eg1 : enters Tryd.prog g1) (eg2 : enters Tryd.prog g2) (he : ∀ (sg : σ) (vis blk : List (H2 × B4)) (c : C3) (W : World), okC c = true → (∃ rest, (vis ++ (blk ++ inT bs c) ++ rest).Perm bs) → Keep (fun i => i ∈ (R s0 [] []).B) w W → (R sg vis blk).φ base W → (R sg vis blk).B.Nodup → (∀ i ∈ (R sg vis blk).B, i ∈ (R s0 [] []).B ∨ w.heap.size ≤ i) → Calls Tryd.prog g1 (([vC c] : List Value) ++ f1).toArray W (Ret fun v W2 => ∃ b : Bool, v = .bool b ∧ Keep Nn W W2 ∧ (b = true → Y c) ∧ (b = false → (R sg vis (blk ++ inT bs c)).φ base W2))) (hx : ∀ (sg : σ) (vis blk : List (H2 × B4)) (x : H2) (v : B4) (W : World), (x, v) ∈ bs → (∀ z ∈ chain (cellB v), Y z) → (∃ rest, ((vis ++ [(x, v)]) ++ blk ++ rest).Perm bs) → Keep (fun i => i ∈ (R s0 [] []).B) w W → (R sg vis blk).φ base W → (R sg vis blk).B.Nodup → (∀ i ∈ (R sg vis blk).B, i ∈ (R s0 [] []).B ∨ w.heap.size ≤ i) → Calls Tryd.prog g2 (([vH x, vB v] : List Value) ++ f2).toArray W (Ret fun u W2 => u = .tuple #[] ∧ ∃ s2 : σ, (R s2 (vis ++ [(x, v)]) blk).φ base W2 ∧ Keep (fun i => i ∈ (R sg vis blk).B) W W2 ∧ (∀ i ∈ (R s2 (vis ++ [(x, v)]) blk).B, i ∈ (R sg vis blk).B ∨ W.heap.size ≤ i) ∧ (R s2 (vis ++ [(x, v)]) blk).B.Nodup)) :
    Calls Tryd.prog 16 #[pV T 0, .func (.func g1) #[] (f1).toArray, .func (.func g2) #[] (f2).toArray] w (Ret fun v w' => v = .tuple #[] ∧ ∃ (sg : σ) (vis blk : List (H2 × B4)), (R sg vis blk).φ base w' ∧ (vis ++ blk).Perm bs ∧ (∀ i ∈ (R sg vis blk).B, i ∈ (R s0 [] []).B ∨ w.heap.size ≤ i) ∧ (R sg vis blk).B.Nodup ∧ Keep (fun i => i ∈ (R s0 [] []).B) w w') := by
 refine sxenter (n := 68) (args := [pV T 0, .func (.func g1) #[] (f1).toArray, .func (.func g2) #[] (f2).toArray]) Tryd.func16 rfl rfl rfl fun a hf => ?_
 replace hf : Fr 68 [(0, eP T 0), (1, .val (.func (.func g1) #[] (f1).toArray)), (2, .val (.func (.func g2) #[] (f2).toArray))] a := hf
 have hM : MemOk [] w := MemOk.nil w
 have hk0 : Keep (fun i => base ≤ i) w w := Keep.refl _ _
 have hO : OwnOk base [] [oFz (frzL base w (R s0 [] []).B) w, R s0 [] []] w := OwnOk.freeze hR hRd
 obtain ⟨nB, cB, N, Lc, hBl, hti, hbT, hTc, ⟨hnM, hnN⟩, _⟩ := hown
 have hin : ∀ {i : Nat}, i ∈ Bl → base ≤ i → i < w.heap.size → i ∈ (frzL base w (R s0 [] []).B) := fun h1 h2 h3 => mem_frz.2 ⟨h3, h2, hap _ h1⟩
 have hTF : T ∈ (frzL base w (R s0 [] []).B) := hin (by rw [hBl]; exact List.mem_cons_self ..) hbT ((Array.getElem?_eq_some_iff.1 hTc).1)
 have hBF : nB ∈ (frzL base w (R s0 [] []).B) := hin (by rw [hBl]; simp) hnM.1 hnM.2.lt
 have hpF : ∀ n ∈ N, n.p ∈ (frzL base w (R s0 [] []).B) ∧ n.m ∈ (frzL base w (R s0 [] []).B) := fun n hn => ⟨hin (by rw [hBl]; simp only [List.mem_cons, List.mem_flatMap]; exact .inr (.inr (.inr ⟨n, hn, by simp [ndB]⟩))) (hnN n hn).1 ((Array.getElem?_eq_some_iff.1 (hnN n hn).2.2.1).1), hin (by rw [hBl]; simp only [List.mem_cons, List.mem_flatMap]; exact .inr (.inr (.inr ⟨n, hn, by simp [ndB]⟩))) (hnN n hn).2.1 (hnN n hn).2.2.2.lt⟩
 refine wp_seq_k (fun K1 hK1 => ?_)
 refine wp_region_lit ?_
 refine q0 hf hM [0, 1, 2] [{ sp := true }] (nw := [(13, .val (.agg #[iV 0, iV 0, iV 0]))]) An ?_
 clear hf; intro a hf
 refine sxbslice hf hM (t := 80) (e := 29) (len := 1) (cs := [iV 0, iV 0, iV 0]) (ob := []) rfl rfl rfl rfl (by as_aux_lemma => kernel_rfl) An (by as_aux_lemma => kernel_rfl) ?_
 clear hf hM; intro a w1 B2 hf hM hB hk
 replace hM : MemOk [⟨B2, 29, [iV 0, iV 0, iV 0]⟩] w1 := hM
 have hbB2 : w.heap.size ≤ B2 := by have := hk0.size; omega
 have hk0 := hk0.trans hk.nn
 have hO := hO.step hM hk.nn (by intro i h; simp only [Mem.names, List.map_cons, List.map_nil, List.mem_cons, List.not_mem_nil, or_false, List.map_append, List.cons_append, List.nil_append] at h ⊢; omega)
 clear hk hB
 refine q0 hf hM [0, 1, 2] [{}] (nw := [(6, eS (some ⟨B2, 0, none⟩) 1 1)]) An ?_
 clear hf; intro a hf
 refine wpList_nil ?_
 refine hK1 _ _ ?_
 refine wp_block ?_
 replace hO := OwnOk.took (M1 := []) (M2 := []) (sz := 3) hO hM (n := 1) (c := 1) (by have := hk0.size; omega) (by decide) (by decide) rfl
 replace hM : MemOk [] w1 := hM.sub (.cons _ .slnil)
 replace hO : OwnOk base [] [oS 29 3 (.slice (some ⟨B2, 0, none⟩) 1 1) 1 (flat fC ([⟨0, 0, 0⟩] : List C3)), oFz (frzL base w (R s0 [] []).B) w, R s0 [] []] w1 := hO
 have hf := (hf.prune [0, 1, 2, 6]).to (env' := [(0, eP T 0), (1, .val (.func (.func g1) #[] (f1).toArray)), (2, .val (.func (.func g2) #[] (f2).toArray)), (6, eS (some ⟨B2, 0, none⟩) 1 1)]) (by kernel_rfl)
 replace hO : OwnOk base [] [oS 29 3 (.slice (some ⟨B2, 0, none⟩) ([rootC].length) 1) ([rootC].length) (flat fC [rootC]), oFz (frzL base w (R s0 [] []).B) w, R s0 ([] : List (H2 × B4)) ([] : List (H2 × B4))] w1 := by
  first | exact hO | (have e : ([oS 29 3 (.slice (some ⟨B2, 0, none⟩) 1 1) 1 (flat fC ([⟨0, 0, 0⟩] : List C3)), oFz (frzL base w (R s0 [] []).B) w, R s0 [] []] : List Own) = [oS 29 3 (.slice (some ⟨B2, 0, none⟩) ([rootC].length) 1) ([rootC].length) (flat fC [rootC]), oFz (frzL base w (R s0 [] []).B) w, R s0 ([] : List (H2 × B4)) ([] : List (H2 × B4))] := by simp [flat]) <;> (rw [← e]; exact hO)
 refine sxloop (fun zm a w1 => ∃ (sg : σ) (SS : List C3) (vis blk : List (H2 × B4)) (av : Option Addr) (cv : Nat), zm = wgtS SS ∧ Fr 68 [(0, eP T 0), (1, .val (.func (.func g1) #[] (f1).toArray)), (2, .val (.func (.func g2) #[] (f2).toArray)), (6, eS av SS.length cv)] a ∧ MemOk [] w1 ∧ Keep (fun i => base ≤ i) w w1 ∧ OwnOk base [] [oS 29 3 (.slice av SS.length cv) SS.length (flat fC SS), oFz (frzL base w (R s0 [] []).B) w, R sg vis blk] w1 ∧ ((vis ++ blk ++ SS.flatMap (inT bs)).Perm bs) ∧ (WaitsC Y SS) ∧ (∀ i ∈ (R sg vis blk).B, i ∈ (R s0 [] []).B ∨ w.heap.size ≤ i) ∧ (wgtS SS ≤ 1953125)) _ ⟨s0, [rootC], ([] : List (H2 × B4)), ([] : List (H2 × B4)), some ⟨B2, 0, none⟩, 1, rfl, hf.conv (Ac rfl (Ac rfl (Ac rfl (Ao (by first | rfl | (simp; done) | (congr 1; omega)))))), hM, hk0, hO, (by simp [inT_root hti.ok]), (WaitsC.root Y), (fun i hi => .inl hi), (by decide)⟩ ?_
 clear hf hM hk0 hO
 rintro _ a w2 ⟨sg, SS, vis, blk, av, cv, rfl, hf, hM, hk0, hO, hp, hS, hB, hw⟩ L1 hL1
 refine wp_seq_k (fun K2 hK2 => ?_)
 refine wp_seq_k (fun K3 hK3 => ?_)
 refine wp_region_lit ?_
 refine q0 hf hM [0, 1, 2, 6] [{}, {}, {}] (nw := [(17, eB (decide (((SS.length : Int) : Int) > 0)))]) An ?_
 clear hf; intro a hf
 refine wpList_nil ?_
 refine hK3 _ _ ?_
 refine qc hf (b := (decide (((SS.length : Int) : Int) > 0))) (fun hc1r => ?_) (fun hc1r => ?_)
 · have hc1 := (nT hc1r)
   obtain ⟨S1, zz, rfl⟩ := last_of hc1
   have hzc := hS.last
   have hsp := inT_split hti.ok hzc
   have hwl := wgtS_len (S1 ++ [zz])
   have hSl : S1.length ≤ 2000000 := by rw [List.length_append] at hwl; omega
   refine wp_skip ?_
   refine hK2 _ _ ?_
   refine wp_block ?_
   refine wp_seq_k (fun K4 hK4 => ?_)
   refine wp_region_lit ?_
   refine q1 hf hM [0, 1, 2, 6] [{}, {}, {}, { hint := some (iV (((S1 ++ [zz]).length : Int) - 1)) }, { sp := true }, { os := [.ex (iV (((S1 ++ [zz]).getD (((S1 ++ [zz]).length : Int) - 1).toNat ⟨0, 0, 0⟩).d)), .ex (iV (((S1 ++ [zz]).getD (((S1 ++ [zz]).length : Int) - 1).toNat ⟨0, 0, 0⟩).x)), .ex (iV (((S1 ++ [zz]).getD (((S1 ++ [zz]).length : Int) - 1).toNat ⟨0, 0, 0⟩).y))], hint := some (.agg #[iV zz.d, iV zz.x, iV zz.y]) }, { os := [.nw] }, { os := [.st 0 0, .st 0 1, .st 0 2] }] (nw := fun B5 => [(7, eP B5 0)]) (M' := fun B5 => [⟨B5, 29, [iV zz.d, iV zz.x, iV zz.y]⟩]) (ob := fun B5 => [(iV (IntKind.i64.wrap (((S1 ++ [zz]).length : Int) - 1)) : Value) = (iV (((S1 ++ [zz]).length : Int) - 1) : Value), (0 : Int) ≤ (((S1 ++ [zz]).length : Int) - 1) ∧ (((S1 ++ [zz]).length : Int) - 1) < ((S1 ++ [zz]).length : Int), (av : Option Addr).isSome = true, w2.cell? (((sa av : Addr).add ((((S1 ++ [zz]).length : Int) - 1).toNat * 3)).add 0) = some (iV (((S1 ++ [zz]).getD (((S1 ++ [zz]).length : Int) - 1).toNat ⟨0, 0, 0⟩).d)), w2.cell? (((sa av : Addr).add ((((S1 ++ [zz]).length : Int) - 1).toNat * 3)).add 1) = some (iV (((S1 ++ [zz]).getD (((S1 ++ [zz]).length : Int) - 1).toNat ⟨0, 0, 0⟩).x)), w2.cell? (((sa av : Addr).add ((((S1 ++ [zz]).length : Int) - 1).toNat * 3)).add 2) = some (iV (((S1 ++ [zz]).getD (((S1 ++ [zz]).length : Int) - 1).toNat ⟨0, 0, 0⟩).y)), (.agg #[iV (((S1 ++ [zz]).getD (((S1 ++ [zz]).length : Int) - 1).toNat ⟨0, 0, 0⟩).d), iV (((S1 ++ [zz]).getD (((S1 ++ [zz]).length : Int) - 1).toNat ⟨0, 0, 0⟩).x), iV (((S1 ++ [zz]).getD (((S1 ++ [zz]).length : Int) - 1).toNat ⟨0, 0, 0⟩).y)] : Value) = (.agg #[iV zz.d, iV zz.x, iV zz.y] : Value), Ad B5 0, Ad B5 1, Ad B5 2]) (fun B5 => (Ac (wr (by omega)) (Ac (by simp only [List.length_append, List.length_singleton]; omega) (Ac ((own_arr (hO.own _ (List.Mem.head _))).some_ (by first | omega | (simp; done))) (Ac ((own_arr (hO.own _ (List.Mem.head _))).get (fun _ => rfl) (by first | omega | (simp; done)) rfl) (Ac ((own_arr (hO.own _ (List.Mem.head _))).get (fun _ => rfl) (by first | omega | (simp; done)) rfl) (Ac ((own_arr (hO.own _ (List.Mem.head _))).get (fun _ => rfl) (by first | omega | (simp; done)) rfl) (Ac (by rw [last_get]) (Ac (ad _ _) (Ac (ad _ _) (Ao (ad _ _)))))))))))) ?_
   clear hf hM; intro a w3 B5 hf hM hB hk
   have hbB5 : w.heap.size ≤ B5 := by have := hk0.size; omega
   have hk0 := hk0.then hk (by intro i _ h; cases h)
   have hO := hO.step hM (hk.mono (by intro _ _ h; cases h)) (by intro i h; simp only [Mem.names, List.map_cons, List.map_nil, List.mem_cons, List.not_mem_nil, or_false, List.map_append, List.cons_append, List.nil_append] at h ⊢; omega)
   clear hk hB
   refine wpList_nil ?_
   refine hK4 _ _ ?_
   refine wp_seq_k (fun K5 hK5 => ?_)
   refine wp_region_lit ?_
   refine q0 hf hM [7, 0, 1, 2, 6] [{}, {}, {}, { hint := some (iV (((S1 ++ [zz]).length : Int) - 1)) }] (nw := [(27, eI (((S1 ++ [zz]).length : Int) - 1)), (24, eS av (S1 ++ [zz]).length cv)]) (ob := [(iV (IntKind.i64.wrap (((S1 ++ [zz]).length : Int) - 1)) : Value) = (iV (((S1 ++ [zz]).length : Int) - 1) : Value)]) (Ao (wr (by omega))) ?_
   clear hf; intro a hf
   refine sxval hf rfl rfl rfl rfl (v := .slice av S1.length cv) (ob := []) (by kernel_rfl) An (by rw [show (.slice av S1.length cv : Value) = .slice av (((S1 ++ [zz]).length : Int) - 1 : Int).toNat cv from (by rw [last_n])]; exact ox_slice_h rfl rfl rfl Tryd.underlying80 (sz := 3) (by kernel_rfl) (by have := (own_arr (hO.own _ (List.Mem.head _))).le; simp only [List.length_append, List.length_singleton] at this ⊢; omega)) ?_
   clear hf; intro a hf
   have hO := hO.cut (fun _ => rfl) (m := S1.length) (by simp)
   replace hO : OwnOk base [⟨B5, 29, [iV zz.d, iV zz.x, iV zz.y]⟩] [oS 29 3 (.slice av S1.length cv) S1.length (flat fC ((S1 ++ [zz]).take S1.length)), oFz (frzL base w (R s0 [] []).B) w, R sg vis blk] w3 := hO
   have el : ((S1 ++ [zz]).take S1.length) = S1 := last_take
   rw [el] at hO; clear el
   refine q0 hf hM [7, 0, 1, 2] [{}] (nw := [(6, eS av S1.length cv)]) An ?_
   clear hf; intro a hf
   refine wpList_nil ?_
   refine hK5 _ _ ?_
   refine wp_seq_k (fun K6 hK6 => ?_)
   replace hM := hM.drew; replace hk0 := hk0.drew; replace hO := hO.drew
   obtain ⟨Cq1, hCq1i, hCq1e⟩ := qcls fun w' => MemOk [⟨B5, 29, [iV zz.d, iV zz.x, iV zz.y]⟩] w' ∧ Keep (fun i => base ≤ i) w w' ∧ OwnOk base [⟨B5, 29, [iV zz.d, iV zz.x, iV zz.y]⟩] [oS 29 3 (.slice av S1.length cv) S1.length (flat fC S1), oFz (frzL base w (R s0 [] []).B) w, R sg vis blk] w'
   refine sxdraw (C := Cq1) (.leaf [(0, true), (1, true), (2, true), (3, true), (4, true), (5, false), (6, true), (7, true), (8, true), (9, true), (10, true)]) (by kernel_rfl) (by kernel_rfl) (by as_aux_lemma => kernel_rfl) rfl (by as_aux_lemma => kernel_rfl) (by kernel_rfl) (hCq1i _ ⟨hM.sub (.cons_cons _ .slnil), hk0, hO.sub (.cons_cons _ .slnil) (.cons_cons _ (.cons_cons _ (.cons_cons _ .slnil)))⟩) ?_
   refine sxleaf ?_
   have hC := (hCq1i _ ⟨hM.sub (.cons_cons _ .slnil), hk0, hO.sub (.cons_cons _ .slnil) (.cons_cons _ (.cons_cons _ (.cons_cons _ .slnil)))⟩)
   refine qd hf hC (fun w' h => (hCq1e w' h).1) [6, 7, 0, 1, 2] [{}, {}, {}, { os := [.ex (.map (some nB))] }, { os := [.ld 0 0, .ld 0 1, .ld 0 2] }] (nw := [(34, .val (.agg #[iV zz.d, iV zz.x, iV zz.y])), (33, .val (.map (some nB))), (32, eP T 0), (31, eP T 0), (30, eP T 0)]) (ob := [(∀ w', Cq1 w' → w'.cell? ⟨T, 0, none⟩ = some (.map (some nB))), Ad B5 0, Ad B5 1, Ad B5 2]) (Ac (fun w' hc => by obtain ⟨hM, hk0, hO⟩ := hCq1e w' hc; exact (cell_same ((hO.own _ (List.Mem.tail _ (List.Mem.head _))) T hTF).2.2 ((cell?_blk (b := ⟨T, 72, [.map (some nB), .map (some cB)]⟩) hTc 0).trans rfl))) (Ac (ad _ _) (Ac (ad _ _) (Ao (ad _ _))))) ?_
   clear hf; intro a hf
   refine scstep rfl ?_
   refine sxlookup hf (hnM.2.same ((hO.own _ (List.Mem.tail _ (List.Mem.head _))) nB hBF).2.2) keyC rfl rfl rfl rfl rfl (⟨zz.d, zz.x, zz.y⟩ : C3) rfl Tryd.underlying69 (none : Option Nat) (by kernel_rfl) (V := .tuple #[vP ((getK (ndL N) (⟨zz.d, zz.x, zz.y⟩ : C3)).getD (none : Option Nat)), bV (hasK (ndL N) (⟨zz.d, zz.x, zz.y⟩ : C3))]) rfl ?_; clear hf; intro a hf
   have hC := (hCq1i _ ⟨hM.sub (.cons_cons _ .slnil), hk0, hO.sub (.cons_cons _ .slnil) (.cons_cons _ (.cons_cons _ (.cons_cons _ .slnil)))⟩)
   refine scdone hC ?_
   refine qd hf hC (fun w' h => (hCq1e w' h).1) [35, 34, 33, 32, 31, 30, 6, 7, 0, 1, 2] [{}, {}, {}, {}, {}] (nw := [(9, eB (hasK (ndL N) (⟨zz.d, zz.x, zz.y⟩ : C3))), (8, .val (vP ((getK (ndL N) (⟨zz.d, zz.x, zz.y⟩ : C3)).getD (none : Option Nat)))), (37, eB (hasK (ndL N) (⟨zz.d, zz.x, zz.y⟩ : C3))), (36, .val (vP ((getK (ndL N) (⟨zz.d, zz.x, zz.y⟩ : C3)).getD (none : Option Nat)))), (29, .val (.tuple #[vP ((getK (ndL N) (⟨zz.d, zz.x, zz.y⟩ : C3)).getD (none : Option Nat)), bV (hasK (ndL N) (⟨zz.d, zz.x, zz.y⟩ : C3))]))]) An ?_
   clear hf; intro a hf
   clear hC
   show K6 _ _
   refine hK6 _ _ ?_
   refine wp_seq_k (fun K7 hK7 => ?_)
   refine wp_seq_k (fun K8 hK8 => ?_)
   refine wp_region_lit ?_
   refine q0 hf hM [9, 8, 37, 36, 29, 35, 34, 33, 32, 31, 30, 6, 7, 0, 1, 2] [{}, {}, {}] (nw := [(40, eB (!(hasK (ndL N) (⟨zz.d, zz.x, zz.y⟩ : C3))))]) An ?_
   clear hf; intro a hf
   rcases Bool.eq_false_or_eq_true (!(hasK (ndL N) (⟨zz.d, zz.x, zz.y⟩ : C3))) with hg1r | hg1r
   · have hg1 := hg1r
     try simp only [Bool.or_eq_true, Bool.and_eq_true, Bool.not_eq_true', Bool.not_eq_false', Bool.or_eq_false_iff, Bool.and_eq_false_iff, decide_eq_true_eq, decide_eq_false_iff_not, beq_iff_eq, bne_iff_ne, beq_eq_false_iff_ne, bne_eq_false_iff_eq, Bool.and_true, Bool.true_and, ne_eq] at hg1
     have hf := hf.setb 40 hg1r
     refine q0 hf hM [40, 9, 8, 37, 36, 29, 35, 34, 33, 32, 31, 30, 6, 7, 0, 1, 2] [{ g := .off }, { g := .off }] (nw := [(42, .val (undef)), (41, .val (undef))]) (ob := [true = !false, true = !false]) (Ac rfl (Ao rfl)) ?_
     clear hf; intro a hf
     refine q0 hf hM [42, 41, 9, 8, 37, 36, 29, 35, 34, 33, 32, 31, 30, 6, 7, 0, 1, 2] [{ g := .off }, { g := .off }, {}] (nw := [(45, eB true), (44, .val (undef)), (43, .val (undef))]) (ob := [true = !false, true = !false]) (Ac rfl (Ao rfl)) ?_
     clear hf; intro a hf
     refine wpList_nil ?_
     refine hK8 _ _ ?_
     refine sxcond hf (b := true) (by kernel_rfl) (fun _ => ?_) (fun h => by cases h)
     refine wp_exit ?_
     have hf := (hf.prune [0, 1, 2, 6]).to (env' := [(0, eP T 0), (1, .val (.func (.func g1) #[] (f1).toArray)), (2, .val (.func (.func g2) #[] (f2).toArray)), (6, eS av S1.length cv)]) (by kernel_rfl)
     replace hO : OwnOk base [] [oS 29 3 (.slice av S1.length cv) S1.length (flat fC S1), oFz (frzL base w (R s0 [] []).B) w, R sg vis blk] w3.drew := hO.sub (.cons _ .slnil) (List.Sublist.refl _)
     replace hM : MemOk [] w3.drew := hM.sub (.cons _ .slnil)
     refine hL1 _ _ _ wgt_pop ⟨sg, S1, vis, blk, av, cv, rfl, hf.conv (Ac rfl (Ac rfl (Ac rfl (Ao rfl)))), hM, hk0, hO, (pop_none hp (inT_none hti (by simpa using (by simpa using hg1r : (hasK (ndL N) (⟨zz.d, zz.x, zz.y⟩ : C3) : Bool) = false)))), hS.pop, hB, (by have := wgt_pop (S1 := S1) (zz := zz); omega)⟩
   · have hg1 := hg1r
     try simp only [Bool.or_eq_true, Bool.and_eq_true, Bool.not_eq_true', Bool.not_eq_false', Bool.or_eq_false_iff, Bool.and_eq_false_iff, decide_eq_true_eq, decide_eq_false_iff_not, beq_iff_eq, bne_iff_ne, beq_eq_false_iff_ne, bne_eq_false_iff_eq, Bool.and_true, Bool.true_and, ne_eq] at hg1
     have hf := hf.setb 40 hg1r
     refine q0 hf hM [40, 9, 8, 37, 36, 29, 35, 34, 33, 32, 31, 30, 6, 7, 0, 1, 2] [{}, { os := [.ld 0 0, .ld 0 1, .ld 0 2] }] (nw := [(42, .val (.agg #[iV zz.d, iV zz.x, iV zz.y])), (41, .val (.func (.func g1) #[] (f1).toArray))]) (ob := [false = false, false = false, Ad B5 0, Ad B5 1, Ad B5 2]) (Ac rfl (Ac rfl (Ac (ad _ _) (Ac (ad _ _) (Ao (ad _ _)))))) ?_
     clear hf; intro a hf
     replace hO : OwnOk base [⟨B5, 29, [iV zz.d, iV zz.x, iV zz.y]⟩] [R sg vis blk, oS 29 3 (.slice av S1.length cv) S1.length (flat fC S1), oFz (frzL base w (R s0 [] []).B) w] w3.drew := OwnOk.front (l1 := [oS 29 3 (.slice av S1.length cv) S1.length (flat fC S1), oFz (frzL base w (R s0 [] []).B) w]) (l2 := []) hO
     have hkR := hO.thaw (List.Mem.tail _ (List.Mem.tail _ (List.Mem.head _))) hk0
     refine sxcallg hf rfl rfl rfl rfl rfl (g := g1) (vs := _) (ob := []) (by as_aux_lemma => kernel_rfl) An eg1 (he sg vis blk zz w3.drew hzc (pop_no_rest hp) hkR (hO.own _ (List.Mem.head _)) hO.ndH hB) ?_
     clear hf; rintro _ w4 a ⟨bb, rfl, hk, hyes, hno⟩ hf
     have hO := hO.keepNn hk; have hM := hM.keepNn hk; have hk0 := hk0.trans hk.nn; clear hkR
     clear hk
     refine q0 hf hM [43, 42, 41, 9, 8, 37, 36, 29, 35, 34, 33, 32, 31, 30, 6, 7, 0, 1, 2] [{}, {}] (nw := [(45, eB (!bb)), (44, eB (!bb))]) (ob := [false = false]) (Ao rfl) ?_
     clear hf; intro a hf
     refine wpList_nil ?_
     refine hK8 _ _ ?_
     refine qc hf (b := !bb) (fun hc3r => ?_) (fun hc3r => ?_)
     · have hc3 := hc3r
       try simp only [Bool.or_eq_true, Bool.and_eq_true, Bool.not_eq_true', Bool.not_eq_false', Bool.or_eq_false_iff, Bool.and_eq_false_iff, decide_eq_true_eq, decide_eq_false_iff_not, beq_iff_eq, bne_iff_ne, beq_eq_false_iff_ne, bne_eq_false_iff_eq, Bool.and_true, Bool.true_and, ne_eq] at hc3
       have hno2 := hno (by simpa using hc3r)
       have hO := hO.turnS (Keep.refl _ _) (o' := R sg vis (blk ++ inT bs zz)) hno2 (by rw [hRB sg vis (blk ++ inT bs zz) blk]; exact List.Sublist.refl _)
       replace hO : OwnOk base [⟨B5, 29, [iV zz.d, iV zz.x, iV zz.y]⟩] [R sg vis (blk ++ inT bs zz), oS 29 3 (.slice av S1.length cv) S1.length (flat fC S1), oFz (frzL base w (R s0 [] []).B) w] w4 := hO
       refine wp_exit ?_
       have hf := (hf.prune [0, 1, 2, 6]).to (env' := [(0, eP T 0), (1, .val (.func (.func g1) #[] (f1).toArray)), (2, .val (.func (.func g2) #[] (f2).toArray)), (6, eS av S1.length cv)]) (by kernel_rfl)
       replace hO : OwnOk base [] [R sg vis (blk ++ inT bs zz), oS 29 3 (.slice av S1.length cv) S1.length (flat fC S1), oFz (frzL base w (R s0 [] []).B) w] w4 := hO.sub (.cons _ .slnil) (List.Sublist.refl _)
       replace hM : MemOk [] w4 := hM.sub (.cons _ .slnil)
       replace hO : OwnOk base [] [oFz (frzL base w (R s0 [] []).B) w, R sg vis (blk ++ inT bs zz), oS 29 3 (.slice av S1.length cv) S1.length (flat fC S1)] w4 := OwnOk.front (l1 := [R sg vis (blk ++ inT bs zz), oS 29 3 (.slice av S1.length cv) S1.length (flat fC S1)]) (l2 := []) hO
       replace hO : OwnOk base [] [oS 29 3 (.slice av S1.length cv) S1.length (flat fC S1), oFz (frzL base w (R s0 [] []).B) w, R sg vis (blk ++ inT bs zz)] w4 := OwnOk.front (l1 := [oFz (frzL base w (R s0 [] []).B) w, R sg vis (blk ++ inT bs zz)]) (l2 := []) hO
       refine hL1 _ _ _ wgt_pop ⟨sg, S1, vis, (blk ++ inT bs zz), av, cv, rfl, hf.conv (Ac rfl (Ac rfl (Ac rfl (Ao rfl)))), hM, hk0, hO, (pop_no hp), hS.pop, (by rw [hRB sg vis (blk ++ inT bs zz) blk]; exact hB), (by have := wgt_pop (S1 := S1) (zz := zz); omega)⟩
     · have hc3 := hc3r
       try simp only [Bool.or_eq_true, Bool.and_eq_true, Bool.not_eq_true', Bool.not_eq_false', Bool.or_eq_false_iff, Bool.and_eq_false_iff, decide_eq_true_eq, decide_eq_false_iff_not, beq_iff_eq, bne_iff_ne, beq_eq_false_iff_ne, bne_eq_false_iff_eq, Bool.and_true, Bool.true_and, ne_eq] at hc3
       have hyz := hyes (by simpa using hc3r)
       have hyc := hS.all hyz
       have hh : hasK (ndL N) zz = true := by simpa using (by simpa using hg1r : (hasK (ndL N) (⟨zz.d, zz.x, zz.y⟩ : C3) : Bool) = true)
       obtain ⟨N1, nd, N2, hNN, hnc, hgp⟩ := ndL_split hh
       have hnm : nd ∈ N := by rw [hNN]; simp
       have hat := hnN nd hnm
       have hnp := nd_own hti hnm
       rw [hnc] at hnp
       replace hf := (hf.prune [8, 6, 7, 0, 1, 2]).to (env' := [(8, .val (vP ((getK (ndL N) (⟨zz.d, zz.x, zz.y⟩ : C3)).getD (none : Option Nat)))), (6, eS av S1.length cv), (7, eP B5 0), (0, eP T 0), (1, .val (.func (.func g1) #[] (f1).toArray)), (2, .val (.func (.func g2) #[] (f2).toArray))]) (by kernel_rfl)
       replace hf : Fr 68 [(8, eP nd.p 0), (6, eS av S1.length cv), (7, eP B5 0), (0, eP T 0), (1, .val (.func (.func g1) #[] (f1).toArray)), (2, .val (.func (.func g2) #[] (f2).toArray))] a := hf.conv (Ac (congrArg vP hgp) (Ac rfl (Ac rfl (Ac rfl (Ac rfl (Ao rfl))))))
       refine wp_skip ?_
       refine hK7 _ _ ?_
       refine wp_seq_k (fun K9 hK9 => ?_)
       refine wp_seq_k (fun K10 hK10 => ?_)
       refine wp_region_lit ?_
       refine q0 hf hM [8, 6, 7, 0, 1, 2] [{}, {}, {}, { os := [.ex (.map (some nd.m))] }] (nw := [(49, .val (.map (some nd.m)))]) (ob := [w4.cell? ⟨nd.p, 0, none⟩ = some (.map (some nd.m))]) (Ao (cell_same ((hO.own _ (List.Mem.tail _ (List.Mem.tail _ (List.Mem.head _)))) nd.p (hpF nd hnm).1).2.2 ((cell?_blk (b := ⟨nd.p, 68, ndCells nd⟩) hat.2.2.1 0).trans rfl))) ?_
       clear hf; intro a hf
       refine sxrangeZ hf hM hO hat.2.2.2 ((hO.own _ (List.Mem.tail _ (List.Mem.tail _ (List.Mem.head _)))) nd.m (hpF nd hnm).2).2.2 rfl rfl rfl rfl rfl Tryd.underlying66 (by have := hk0.size; omega) ?_; clear hf hM hO; intro a w5 r1 hf hM hO hk
       replace hO : OwnOk base [⟨B5, 29, [iV zz.d, iV zz.x, iV zz.y]⟩] [oJ w nd.m r1 vH vB nd.bs nd.bs, R sg vis blk, oS 29 3 (.slice av S1.length cv) S1.length (flat fC S1), oFz (frzL base w (R s0 [] []).B) w] w5 := hO
       have hk0 := hk0.trans hk.nn
       clear hk
       refine wpList_nil ?_
       refine hK10 _ _ ?_
       refine wp_block ?_
       have hf := (hf.prune [0, 1, 2, 6, 7, 8, 50]).to (env' := [(0, eP T 0), (1, .val (.func (.func g1) #[] (f1).toArray)), (2, .val (.func (.func g2) #[] (f2).toArray)), (6, eS av S1.length cv), (7, eP B5 0), (8, eP nd.p 0), (50, eP r1 0)]) (by kernel_rfl)
       refine sxloop (fun zm a w1 => ∃ (s1 : σ) (vi lf : List (H2 × B4)), zm = lf.length ∧ Fr 68 [(0, eP T 0), (1, .val (.func (.func g1) #[] (f1).toArray)), (2, .val (.func (.func g2) #[] (f2).toArray)), (6, eS av S1.length cv), (7, eP B5 0), (8, eP nd.p 0), (50, eP r1 0)] a ∧ MemOk [⟨B5, 29, [iV zz.d, iV zz.x, iV zz.y]⟩] w1 ∧ Keep (fun i => base ≤ i) w w1 ∧ OwnOk base [⟨B5, 29, [iV zz.d, iV zz.x, iV zz.y]⟩] [oJ w nd.m r1 vH vB nd.bs lf, R s1 vi blk, oS 29 3 (.slice av S1.length cv) S1.length (flat fC S1), oFz (frzL base w (R s0 [] []).B) w] w1 ∧ ((vi ++ lf).Perm (vis ++ nd.bs)) ∧ (∀ i ∈ (R s1 vi blk).B, i ∈ (R s0 [] []).B ∨ w.heap.size ≤ i)) _ ⟨sg, vis, nd.bs, rfl, hf.conv (Ac rfl (Ac rfl (Ac rfl (Ac rfl (Ac rfl (Ac rfl (Ao rfl))))))), hM, hk0, hO, (List.Perm.refl _), hB⟩ ?_
       clear hf hM hk0 hO
       rintro _ a w6 ⟨s1, vi, lf, rfl, hf, hM, hk0, hO, hpi, hBi⟩ L2 hL2
       refine wp_seq_k (fun K11 hK11 => ?_)
       refine wp_region_lit ?_
       refine sxmapnextZ hf hM hO ((hO.own _ (List.Mem.tail _ (List.Mem.tail _ (List.Mem.tail _ (List.Mem.head _))))) nd.m (hpF nd hnm).2).2.2 rfl rfl rfl rfl rfl (fun hd a hf => ?_) (fun x1 v1 lf1 hp1 hi a w7 hf hM hO2 hk he => ?_)
       · have hdone := hd; clear hd
         refine q0 hf hM [0, 1, 2, 6, 7, 8, 50] [{}] (nw := [(52, eB false)]) An ?_
         clear hf; intro a hf
         refine wpList_nil ?_
         refine hK11 _ _ ?_
         refine wp_seq_k (fun K12 hK12 => ?_)
         refine sxcond hf (b := false) (by kernel_rfl) (fun h => by cases h) (fun _ => ?_)
         refine wp_exit ?_
         refine hK9 _ _ ?_
         refine wp_seq_k (fun K13 hK13 => ?_)
         refine wp_region_lit ?_
         refine q0 hf hM [0, 1, 2, 6, 7, 8] [{}, { os := [.ld 0 0] }, {}] (nw := [(62, eB (decide ((zz.d : Int) < 8)))]) (ob := [Ad B5 0]) (Ao (ad _ _)) ?_
         clear hf; intro a hf
         refine wpList_nil ?_
         refine hK13 _ _ ?_
         refine qc hf (b := (decide ((zz.d : Int) < 8))) (fun hc5r => ?_) (fun hc5r => ?_)
         · have hc5 := (nT hc5r)
           refine wp_seq_k (fun K14 hK14 => ?_)
           refine wp_region_lit ?_
           refine q0 hf hM [0, 1, 2, 6, 8] [{ os := [.ld 0 0, .ld 0 1, .ld 0 2] }] (nw := [(63, .val (.agg #[iV zz.d, iV zz.x, iV zz.y]))]) (ob := [Ad B5 0, Ad B5 1, Ad B5 2]) (Ac (ad _ _) (Ac (ad _ _) (Ao (ad _ _)))) ?_
           clear hf; intro a hf
           refine sxcall hf rfl rfl rfl rfl (g := 37) (vs := [.agg #[iV zz.d, iV zz.x, iV zz.y]]) (ob := []) (by as_aux_lemma => kernel_rfl) An enters37 (kids_any zz.d zz.x zz.y w6 hzc ) ?_
           clear hf; rintro _ w8 a ⟨rfl, hk⟩ hf
           have hO := hO.keepNn hk
           have hM := hM.keepNn hk
           have hk0 := hk0.trans hk.nn
           clear hk
           refine q1 hf hM [0, 1, 2, 6, 8] [{ os := [.nw] }, { os := [.st 1 0, .st 1 1, .st 1 2, .st 1 3, .st 1 4, .st 1 5, .st 1 6, .st 1 7, .st 1 8, .st 1 9, .st 1 10, .st 1 11] }] (nw := fun B17 => [(12, eP B17 0)]) (M' := fun B17 => [⟨B5, 29, [iV zz.d, iV zz.x, iV zz.y]⟩, ⟨B17, 82, [iV (zz.d + 1), iV (2 * zz.x), iV (2 * zz.y), iV (zz.d + 1), iV (2 * zz.x + 1), iV (2 * zz.y), iV (zz.d + 1), iV (2 * zz.x), iV (2 * zz.y + 1), iV (zz.d + 1), iV (2 * zz.x + 1), iV (2 * zz.y + 1)]⟩]) (ob := fun B17 => [Ad B17 0, Ad B17 1, Ad B17 2, Ad B17 3, Ad B17 4, Ad B17 5, Ad B17 6, Ad B17 7, Ad B17 8, Ad B17 9, Ad B17 10, Ad B17 11]) (fun B17 => (Ac (ad _ _) (Ac (ad _ _) (Ac (ad _ _) (Ac (ad _ _) (Ac (ad _ _) (Ac (ad _ _) (Ac (ad _ _) (Ac (ad _ _) (Ac (ad _ _) (Ac (ad _ _) (Ac (ad _ _) (Ao (ad _ _)))))))))))))) ?_
           clear hf hM; intro a w9 B17 hf hM hB hk
           have hbB17 : w.heap.size ≤ B17 := by have := hk0.size; omega
           have hk0 := hk0.thenNew hk (by simp [Mem.names] <;> omega)
           have hO := hO.step hM hk (by intro i h; simp only [Mem.names, List.map_cons, List.map_nil, List.mem_cons, List.not_mem_nil, or_false, List.map_append, List.cons_append, List.nil_append] at h ⊢; omega)
           clear hk hB
           refine wpList_nil ?_
           refine hK14 _ _ ?_
           refine wp_region_lit ?_
           refine q0 hf hM [12, 0, 1, 2, 6, 8] [{}] (nw := [(65, eS av S1.length cv)]) An ?_
           clear hf; intro a hf
           refine sxval hf rfl rfl rfl rfl (v := .slice (some ⟨B17, 0, none⟩) 4 4) (ob := []) (by kernel_rfl) An (ox_slice_arr rfl rfl Tryd.underlying82 (sz := 3) (by kernel_rfl)) ?_; clear hf; intro a hf
           replace hO : OwnOk base [⟨B5, 29, [iV zz.d, iV zz.x, iV zz.y]⟩, ⟨B17, 82, [iV (zz.d + 1), iV (2 * zz.x), iV (2 * zz.y), iV (zz.d + 1), iV (2 * zz.x + 1), iV (2 * zz.y), iV (zz.d + 1), iV (2 * zz.x), iV (2 * zz.y + 1), iV (zz.d + 1), iV (2 * zz.x + 1), iV (2 * zz.y + 1)]⟩] [oS 29 3 (.slice av S1.length cv) S1.length (flat fC S1), oJ w nd.m r1 vH vB nd.bs lf, R s1 vi blk, oFz (frzL base w (R s0 [] []).B) w] w9 := OwnOk.front (l1 := [oJ w nd.m r1 vH vB nd.bs lf, R s1 vi blk]) (l2 := [oFz (frzL base w (R s0 [] []).B) w]) hO
           refine sxappend hf hM (e := 29) (sz := 3) (by_ := 24) (k := S1.length) (v := .slice av S1.length cv) (xs := flat fC S1) hO rfl rfl rfl rfl (av := some ⟨B17, 0, none⟩) (m := 4) (c := 4) rfl rfl Tryd.underlying80 (by kernel_rfl) rfl (news := flat fC (kids zz)) (Arr.of_memT (sz := 3) (f := fC) (L := kids zz) (l := kids zz) (c := 4) hM (List.Mem.tail _ (List.Mem.head _)) (fun _ => rfl) rfl rfl) (flat_one1 fC_one) (by simp only [maxLen]; omega) (by have := hk0.size; omega) ?_
           clear hf hM hO; intro a w10 av1 cv1 hf hM hO hk
           have en : (S1.length + 4 : Nat) = (S1 ++ kids zz).length := (by simp [kids])
           have ec : flat fC S1 ++ flat fC (kids zz) = flat fC (S1 ++ kids zz) := (by first | rfl | exact (flat_app _ _ _).symm | simp [flat_app, flat_nil])
           rw [en] at hf hO; rw [ec] at hO; clear en ec
           replace hO : OwnOk base [⟨B5, 29, [iV zz.d, iV zz.x, iV zz.y]⟩, ⟨B17, 82, [iV (zz.d + 1), iV (2 * zz.x), iV (2 * zz.y), iV (zz.d + 1), iV (2 * zz.x + 1), iV (2 * zz.y), iV (zz.d + 1), iV (2 * zz.x), iV (2 * zz.y + 1), iV (zz.d + 1), iV (2 * zz.x + 1), iV (2 * zz.y + 1)]⟩] [oS 29 3 (.slice av1 (S1 ++ kids zz).length cv1) (S1 ++ kids zz).length (flat fC (S1 ++ kids zz)), oJ w nd.m r1 vH vB nd.bs lf, R s1 vi blk, oFz (frzL base w (R s0 [] []).B) w] w10 := hO
           have hk0 := hk0.then hk (by intro i hi h; exact h.1)
           clear hk
           refine q0 hf hM [0, 1, 2, 8] [{}] (nw := [(6, eS av1 (S1 ++ kids zz).length cv1)]) An ?_
           clear hf; intro a hf
           refine wpList_nil ?_
           have hf := (hf.prune [0, 1, 2, 6]).to (env' := [(0, eP T 0), (1, .val (.func (.func g1) #[] (f1).toArray)), (2, .val (.func (.func g2) #[] (f2).toArray)), (6, eS av1 (S1 ++ kids zz).length cv1)]) (by kernel_rfl)
           replace hO : OwnOk base [] [oS 29 3 (.slice av1 (S1 ++ kids zz).length cv1) (S1 ++ kids zz).length (flat fC (S1 ++ kids zz)), oJ w nd.m r1 vH vB nd.bs lf, R s1 vi blk, oFz (frzL base w (R s0 [] []).B) w] w10 := hO.sub (.cons _ (.cons _ .slnil)) (List.Sublist.refl _)
           replace hM : MemOk [] w10 := hM.sub (.cons _ (.cons _ .slnil))
           replace hO : OwnOk base [] [oS 29 3 (.slice av1 (S1 ++ kids zz).length cv1) (S1 ++ kids zz).length (flat fC (S1 ++ kids zz)), R s1 vi blk, oFz (frzL base w (R s0 [] []).B) w] w10 := hO.sub (List.Sublist.refl _) (.cons_cons _ (.cons _ (.cons_cons _ (.cons_cons _ .slnil))))
           replace hO : OwnOk base [] [R s1 vi blk, oS 29 3 (.slice av1 (S1 ++ kids zz).length cv1) (S1 ++ kids zz).length (flat fC (S1 ++ kids zz)), oFz (frzL base w (R s0 [] []).B) w] w10 := OwnOk.front (l1 := [oS 29 3 (.slice av1 (S1 ++ kids zz).length cv1) (S1 ++ kids zz).length (flat fC (S1 ++ kids zz))]) (l2 := [oFz (frzL base w (R s0 [] []).B) w]) hO
           replace hO : OwnOk base [] [oFz (frzL base w (R s0 [] []).B) w, R s1 vi blk, oS 29 3 (.slice av1 (S1 ++ kids zz).length cv1) (S1 ++ kids zz).length (flat fC (S1 ++ kids zz))] w10 := OwnOk.front (l1 := [R s1 vi blk, oS 29 3 (.slice av1 (S1 ++ kids zz).length cv1) (S1 ++ kids zz).length (flat fC (S1 ++ kids zz))]) (l2 := []) hO
           replace hO : OwnOk base [] [oS 29 3 (.slice av1 (S1 ++ kids zz).length cv1) (S1 ++ kids zz).length (flat fC (S1 ++ kids zz)), oFz (frzL base w (R s0 [] []).B) w, R s1 vi blk] w10 := OwnOk.front (l1 := [oFz (frzL base w (R s0 [] []).B) w, R s1 vi blk]) (l2 := []) hO
           refine hL1 _ _ _ (wgt_push hzc (of_decide_eq_true hc5r)) ⟨s1, (S1 ++ kids zz), vi, blk, av1, cv1, rfl, hf.conv (Ac rfl (Ac rfl (Ac rfl (Ao rfl)))), hM, hk0, hO, (pop_yes hp hsp hnp hpi hdone), (hS.push (of_decide_eq_true hc5r) hyc), hBi, (by have := wgt_push (S1 := S1) hzc (of_decide_eq_true hc5r); omega)⟩
         · have hc5 := (nU hc5r)
           refine wp_skip ?_
           have hf := (hf.prune [0, 1, 2, 6]).to (env' := [(0, eP T 0), (1, .val (.func (.func g1) #[] (f1).toArray)), (2, .val (.func (.func g2) #[] (f2).toArray)), (6, eS av S1.length cv)]) (by kernel_rfl)
           replace hO : OwnOk base [] [oJ w nd.m r1 vH vB nd.bs lf, R s1 vi blk, oS 29 3 (.slice av S1.length cv) S1.length (flat fC S1), oFz (frzL base w (R s0 [] []).B) w] w6 := hO.sub (.cons _ .slnil) (List.Sublist.refl _)
           replace hM : MemOk [] w6 := hM.sub (.cons _ .slnil)
           replace hO : OwnOk base [] [R s1 vi blk, oS 29 3 (.slice av S1.length cv) S1.length (flat fC S1), oFz (frzL base w (R s0 [] []).B) w] w6 := hO.sub (List.Sublist.refl _) (.cons _ (.cons_cons _ (.cons_cons _ (.cons_cons _ .slnil))))
           replace hO : OwnOk base [] [oFz (frzL base w (R s0 [] []).B) w, R s1 vi blk, oS 29 3 (.slice av S1.length cv) S1.length (flat fC S1)] w6 := OwnOk.front (l1 := [R s1 vi blk, oS 29 3 (.slice av S1.length cv) S1.length (flat fC S1)]) (l2 := []) hO
           replace hO : OwnOk base [] [oS 29 3 (.slice av S1.length cv) S1.length (flat fC S1), oFz (frzL base w (R s0 [] []).B) w, R s1 vi blk] w6 := OwnOk.front (l1 := [oFz (frzL base w (R s0 [] []).B) w, R s1 vi blk]) (l2 := []) hO
           refine hL1 _ _ _ wgt_pop ⟨s1, S1, vi, blk, av, cv, rfl, hf.conv (Ac rfl (Ac rfl (Ac rfl (Ao rfl)))), hM, hk0, hO, (pop_deep hp hsp (inT_deep hti.ok (by have := okC_iff.1 hzc; have := of_decide_eq_false hc5r; omega)) hnp hpi hdone), hS.pop, hBi, (by have := wgt_pop (S1 := S1) (zz := zz); omega)⟩
       · have hk0 := hk0.then hk (by intro i hi h; subst h; exact (hO.ltB (List.Mem.head _) (List.mem_singleton.2 rfl)).1); clear hO; have hO := hO2; clear hO2
         clear hk
         replace hO : OwnOk base [⟨B5, 29, [iV zz.d, iV zz.x, iV zz.y]⟩] [oJ w nd.m r1 vH vB nd.bs lf1, R s1 vi blk, oS 29 3 (.slice av S1.length cv) S1.length (flat fC S1), oFz (frzL base w (R s0 [] []).B) w] w7 := hO
         refine q0 hf hM [0, 1, 2, 6, 7, 8, 50] [{}] (nw := [(52, eB true)]) An ?_
         clear hf; intro a hf
         refine wpList_nil ?_
         refine hK11 _ _ ?_
         refine wp_seq_k (fun K15 hK15 => ?_)
         refine sxcond hf (b := true) (by kernel_rfl) (fun _ => ?_) (fun h => by cases h)
         refine wp_skip ?_
         refine hK15 _ _ ?_
         refine wp_block ?_
         refine wp_seq_k (fun K16 hK16 => ?_)
         refine wp_region_lit ?_
         refine sxval hf rfl rfl rfl rfl (v := .tuple #[.agg #[iV x1.i, iV x1.g], .agg #[iV v1.x0, iV v1.y0, iV v1.x1, iV v1.y1]]) (ob := []) (by kernel_rfl) An (ox_entry rfl rfl he) ?_
         clear hf; intro a hf
         refine q1 hf hM [0, 1, 2, 6, 7, 8, 50] [{}, {}, { os := [.nw] }, { os := [.nw] }, { os := [.st 1 0, .st 1 1] }, { os := [.st 2 0, .st 2 1, .st 2 2, .st 2 3] }] (nw := fun B21 => [(11, eP (B21 + 1) 0), (10, eP B21 0)]) (M' := fun B21 => [⟨B5, 29, [iV zz.d, iV zz.x, iV zz.y]⟩, ⟨B21, 39, [iV x1.i, iV x1.g]⟩, ⟨B21 + 1, 32, [iV v1.x0, iV v1.y0, iV v1.x1, iV v1.y1]⟩]) (ob := fun B21 => [Ad B21 0, Ad B21 1, Ad (B21 + 1) 0, Ad (B21 + 1) 1, Ad (B21 + 1) 2, Ad (B21 + 1) 3]) (fun B21 => (Ac (ad _ _) (Ac (ad _ _) (Ac (ad _ _) (Ac (ad _ _) (Ac (ad _ _) (Ao (ad _ _)))))))) ?_
         clear hf hM; intro a w11 B21 hf hM hB hk
         have hbB21 : w.heap.size ≤ B21 := by have := hk0.size; omega
         have hk0 := hk0.thenNew hk (by simp [Mem.names] <;> omega)
         have hO := hO.step hM hk (by intro i h; simp only [Mem.names, List.map_cons, List.map_nil, List.mem_cons, List.not_mem_nil, or_false, List.map_append, List.cons_append, List.nil_append] at h ⊢; omega)
         clear hk hB
         refine wpList_nil ?_
         refine hK16 _ _ ?_
         refine wp_region_lit ?_
         refine q0 hf hM [0, 1, 2, 6, 7, 8, 50] [{}, { os := [.ld 1 0, .ld 1 1] }, { os := [.ld 2 0, .ld 2 1, .ld 2 2, .ld 2 3] }] (nw := [(58, .val (.agg #[iV v1.x0, iV v1.y0, iV v1.x1, iV v1.y1])), (57, .val (.agg #[iV x1.i, iV x1.g])), (56, .val (.func (.func g2) #[] (f2).toArray))]) (ob := [Ad B21 0, Ad B21 1, Ad (B21 + 1) 0, Ad (B21 + 1) 1, Ad (B21 + 1) 2, Ad (B21 + 1) 3]) (Ac (ad _ _) (Ac (ad _ _) (Ac (ad _ _) (Ac (ad _ _) (Ac (ad _ _) (Ao (ad _ _))))))) ?_
         clear hf; intro a hf
         replace hO : OwnOk base [⟨B5, 29, [iV zz.d, iV zz.x, iV zz.y]⟩, ⟨B21, 39, [iV x1.i, iV x1.g]⟩, ⟨B21 + 1, 32, [iV v1.x0, iV v1.y0, iV v1.x1, iV v1.y1]⟩] [R s1 vi blk, oJ w nd.m r1 vH vB nd.bs lf1, oS 29 3 (.slice av S1.length cv) S1.length (flat fC S1), oFz (frzL base w (R s0 [] []).B) w] w11 := OwnOk.front (l1 := [oJ w nd.m r1 vH vB nd.bs lf1]) (l2 := [oS 29 3 (.slice av S1.length cv) S1.length (flat fC S1), oFz (frzL base w (R s0 [] []).B) w]) hO
         have hkR := hO.thaw (List.Mem.tail _ (List.Mem.tail _ (List.Mem.tail _ (List.Mem.head _)))) hk0
         have hxo := List.mem_filter.1 (hnp.mem_iff.1 hi)
         have hxc : cellB v1 = zz := of_decide_eq_true hxo.2
         refine sxcall hf rfl rfl rfl rfl (g := g2) (vs := _) (ob := []) (by as_aux_lemma => kernel_rfl) An eg2 (hx s1 vi blk x1 v1 w11 hxo.1 (by rw [hxc]; exact hyc) (pop_rest hp hsp hnp hpi hp1) hkR (hO.own _ (List.Mem.head _)) hO.ndH hBi) ?_
         clear hf; rintro _ w12 a ⟨rfl, sn1, hx1, hk, hx2, hx3⟩ hf
         have hBi2 : ∀ i ∈ (R sn1 (vi ++ [(x1, v1)]) blk).B, i ∈ (R s0 [] []).B ∨ w.heap.size ≤ i := fun i hi => (hx2 i hi).elim (hBi i) (fun h => .inr (by have := hk0.size; omega))
         have hk0 := hk0.then hk (by intro i hi h; exact (hO.ltB (List.Mem.head _) h).1); have hO2 := hO.turnB hM hk hx1 hx2 hx3; have hM := hO.memTurnB hM hk; clear hO hkR; have hO := hO2; clear hO2
         clear hk hx1 hx2 hx3
         replace hO : OwnOk base [⟨B5, 29, [iV zz.d, iV zz.x, iV zz.y]⟩, ⟨B21, 39, [iV x1.i, iV x1.g]⟩, ⟨B21 + 1, 32, [iV v1.x0, iV v1.y0, iV v1.x1, iV v1.y1]⟩] [R sn1 (vi ++ [(x1, v1)]) blk, oJ w nd.m r1 vH vB nd.bs lf1, oS 29 3 (.slice av S1.length cv) S1.length (flat fC S1), oFz (frzL base w (R s0 [] []).B) w] w12 := hO
         refine wpList_nil ?_
         have hf := (hf.prune [0, 1, 2, 6, 7, 8, 50]).to (env' := [(0, eP T 0), (1, .val (.func (.func g1) #[] (f1).toArray)), (2, .val (.func (.func g2) #[] (f2).toArray)), (6, eS av S1.length cv), (7, eP B5 0), (8, eP nd.p 0), (50, eP r1 0)]) (by kernel_rfl)
         replace hO : OwnOk base [⟨B5, 29, [iV zz.d, iV zz.x, iV zz.y]⟩] [R sn1 (vi ++ [(x1, v1)]) blk, oJ w nd.m r1 vH vB nd.bs lf1, oS 29 3 (.slice av S1.length cv) S1.length (flat fC S1), oFz (frzL base w (R s0 [] []).B) w] w12 := hO.sub (.cons_cons _ (.cons _ (.cons _ .slnil))) (List.Sublist.refl _)
         replace hM : MemOk [⟨B5, 29, [iV zz.d, iV zz.x, iV zz.y]⟩] w12 := hM.sub (.cons_cons _ (.cons _ (.cons _ .slnil)))
         replace hO : OwnOk base [⟨B5, 29, [iV zz.d, iV zz.x, iV zz.y]⟩] [oFz (frzL base w (R s0 [] []).B) w, R sn1 (vi ++ [(x1, v1)]) blk, oJ w nd.m r1 vH vB nd.bs lf1, oS 29 3 (.slice av S1.length cv) S1.length (flat fC S1)] w12 := OwnOk.front (l1 := [R sn1 (vi ++ [(x1, v1)]) blk, oJ w nd.m r1 vH vB nd.bs lf1, oS 29 3 (.slice av S1.length cv) S1.length (flat fC S1)]) (l2 := []) hO
         replace hO : OwnOk base [⟨B5, 29, [iV zz.d, iV zz.x, iV zz.y]⟩] [oS 29 3 (.slice av S1.length cv) S1.length (flat fC S1), oFz (frzL base w (R s0 [] []).B) w, R sn1 (vi ++ [(x1, v1)]) blk, oJ w nd.m r1 vH vB nd.bs lf1] w12 := OwnOk.front (l1 := [oFz (frzL base w (R s0 [] []).B) w, R sn1 (vi ++ [(x1, v1)]) blk, oJ w nd.m r1 vH vB nd.bs lf1]) (l2 := []) hO
         replace hO : OwnOk base [⟨B5, 29, [iV zz.d, iV zz.x, iV zz.y]⟩] [R sn1 (vi ++ [(x1, v1)]) blk, oS 29 3 (.slice av S1.length cv) S1.length (flat fC S1), oFz (frzL base w (R s0 [] []).B) w, oJ w nd.m r1 vH vB nd.bs lf1] w12 := OwnOk.front (l1 := [oS 29 3 (.slice av S1.length cv) S1.length (flat fC S1), oFz (frzL base w (R s0 [] []).B) w]) (l2 := [oJ w nd.m r1 vH vB nd.bs lf1]) hO
         replace hO : OwnOk base [⟨B5, 29, [iV zz.d, iV zz.x, iV zz.y]⟩] [oJ w nd.m r1 vH vB nd.bs lf1, R sn1 (vi ++ [(x1, v1)]) blk, oS 29 3 (.slice av S1.length cv) S1.length (flat fC S1), oFz (frzL base w (R s0 [] []).B) w] w12 := OwnOk.front (l1 := [R sn1 (vi ++ [(x1, v1)]) blk, oS 29 3 (.slice av S1.length cv) S1.length (flat fC S1), oFz (frzL base w (R s0 [] []).B) w]) (l2 := []) hO
         refine hL2 _ _ _ (by have := hp1.length_eq; simp only [List.length_cons] at this; omega) ⟨sn1, (vi ++ [(x1, v1)]), lf1, rfl, hf.conv (Ac rfl (Ac rfl (Ac rfl (Ac rfl (Ac rfl (Ac rfl (Ao rfl))))))), hM, hk0, hO, (next_perm hpi hp1), hBi2⟩
 · have hc1 := (nU hc1r)
   refine wp_exit ?_
   refine qe (fn := Tryd.f16) hf hM [] (l := []) (ob := []) An ?_
   show (.tuple #[] : Value) = .tuple #[] ∧ ∃ (sg : σ) (vis blk : List (H2 × B4)), (R sg vis blk).φ base w2 ∧ (vis ++ blk).Perm bs ∧ (∀ i ∈ (R sg vis blk).B, i ∈ (R s0 [] []).B ∨ w.heap.size ≤ i) ∧ (R sg vis blk).B.Nodup ∧ Keep (fun i => i ∈ (R s0 [] []).B) w w2
   have hkR := hO.thaw (List.Mem.tail _ (List.Mem.head _)) hk0
   have hO := OwnOk.front (l1 := [oS 29 3 (.slice av SS.length cv) SS.length (flat fC SS), oFz (frzL base w (R s0 [] []).B) w]) (l2 := []) hO
   have hS0 : SS = [] := List.eq_nil_of_length_eq_zero (by omega)
   rw [hS0] at hp
   exact ⟨rfl, sg, vis, blk, hO.own _ (List.Mem.head _), by simpa using hp, hB, hO.ndH, hkR⟩
end Go.Proofs.YthofalkkdpjdlaaDoor
