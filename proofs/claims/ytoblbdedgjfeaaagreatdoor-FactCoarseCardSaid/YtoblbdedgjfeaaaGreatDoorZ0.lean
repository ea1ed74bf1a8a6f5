/- Names for closed terms that are often repeated. -/
import Derived.WalkKit
namespace Go
theorem nb {a b : Nat} (h : Nat.ble a b = true) : a ≤ b := Nat.le_of_ble_eq_true h
theorem tt : True := True.intro
theorem q_0 {p : Prop} (h : p := by first | exact .ptr rfl | exact .map rfl | exact .vec rfl | exact .same (congrArg (fun z : Int => CV.val (.int .i64 z)) (by show _ = ((V4 s i1 : Nat) : Int); omega)) (by first | exact .val _ | exact .ptr (nb rfl) | exact .map (nb rfl) | exact (by first | exact K7 _ _ | exact D4 _ _ _ | exact K1 _ _ _ | exact k8 _ _ _ | exact J3 _ _ _)) | exact B4.grow (f := Tok.cv) (fun _ => ⟨.val _, .val _, .val _, .val _, tt⟩) rfl) : p := h
theorem q_1 {p : Prop} (h : p := by first | exact .ptr rfl | exact .map rfl | exact .vec rfl | exact .same rfl (by first | exact .val _ | exact .ptr (nb rfl) | exact .map (nb rfl) | exact (by first | exact K7 _ _ | exact D4 _ _ _ | exact K1 _ _ _ | exact k8 _ _ _ | exact J3 _ _ _)) | exact B4.grow (f := Tok.cv) (fun _ => ⟨.val _, .val _, .val _, .val _, tt⟩) rfl) : p := h
theorem q_2 {p : Prop} (h : p := by exact ⟨by dsimp only; omega, by dsimp only; omega, by dsimp only; omega, by dsimp only; simp only [List.length_append, List.length_cons, List.length_nil]; omega, by dsimp only; simp only [List.length_append, List.length_cons, List.length_nil]; omega, by dsimp only; omega, by dsimp only; omega⟩) : p := h
theorem q_3 {p : Prop} (h : p := by exact (a2M rfl (by first | exact a1Y (by intro a; rfl) _ | (intro r hr; simp at hr; done) | (intro r hr; simp at hr; subst hr; rfl) | (intro r hr; exact a1Y (by intro a; rfl) _ r (List.mem_of_mem_take (List.mem_of_mem_drop hr))) | (intro r hr; simp at hr; obtain ⟨a, _, rfl⟩ := hr; rfl)))) : p := h
theorem q_4 {p : Prop} (h : p := by first | exact .ptr rfl | exact .map rfl | exact .vec rfl | exact .same rfl (by first | exact .val _ | exact .ptr (nb rfl) | exact .map (nb rfl) | exact I5 _ _ _ | exact a7C _ [] _ | exact k8 _ _ _) | exact B4.grow (f := Sn.cv) (fun _ => ⟨.val _, .val _, tt⟩) rfl) : p := h
theorem q_5 {p : Prop} (h : p := by first | exact .ptr rfl | exact .map rfl | exact .vec rfl | exact .same rfl (by first | exact .val _ | exact .ptr (nb rfl) | exact .map (nb rfl) | exact k8 _ _ _ | exact a9r _ _ _) | exact B4.grow (f := scv) (fun _ => ⟨.val _, tt⟩) rfl) : p := h
theorem q_6 {p : Prop} (h : p := by first | exact .ptr rfl | exact .map rfl | exact .vec rfl | exact .same rfl (by first | exact .val _ | exact .ptr (nb rfl) | exact .map (nb rfl) | exact z7 _ _ _ | exact I5 _ _ _) | exact B4.grow (f := scv) (fun _ => ⟨.val _, tt⟩) rfl) : p := h
theorem q_7 {p : Prop} (h : p := by first | exact .ptr rfl | exact .map rfl | exact .vec rfl | exact .same rfl (by first | exact .val _ | exact .ptr (nb rfl) | exact .map (nb rfl) | exact k8 _ _ _ | exact a9r _ _ _) | exact .same rfl (k8 _ ([] : List Str) _)) : p := h
theorem q_8 {p : Prop} (h : p := by first | exact .ptr rfl | exact .map rfl | exact .vec rfl | exact .same rfl (by first | exact .val _ | exact .ptr (nb rfl) | exact .map (nb rfl) | exact z7 _ _ _) | exact B4.grow (f := Fi.cv) (fun a => ⟨.val _, .val _, tt⟩) rfl) : p := h
theorem q_9 {p : Prop} (h : p := by first | exact .ptr rfl | exact .map rfl | exact .vec rfl | exact .same rfl (by first | exact .val _ | exact .ptr (nb rfl) | exact .map (nb rfl) | exact J3 _ _ _) | exact B4.grow (f := bcv) (fun a => ⟨.val _, tt⟩) rfl) : p := h
theorem U1 {p : Prop} (h : p := by first | exact .ptr rfl | exact .map rfl | exact .vec rfl | exact .same rfl (by first | exact .val _ | exact .ptr (nb rfl) | exact .map (nb rfl) | exact k8 _ _ _) | exact B4.grow (f := scv) (fun a => ⟨.val _, tt⟩) rfl) : p := h
theorem b2x {p : Prop} (h : p := by first | exact .ptr rfl | exact .map rfl | exact .vec rfl | exact .same rfl (by first | exact .val _ | exact .ptr (nb rfl) | exact .map (nb rfl) | exact D4 _ _ _) | exact B4.grow (f := icv) (fun _ => ⟨.val _, tt⟩) rfl) : p := h
theorem b5X {p : Prop} (h : p := by first | exact .ptr rfl | exact .map rfl | exact .vec rfl | exact .same rfl (by first | exact .val _ | exact .ptr (nb rfl) | exact .map (nb rfl) | exact k8 _ _ _) | exact B4.grow (f := scv) (fun _ => ⟨.val _, tt⟩) rfl) : p := h
theorem a7r {p : Prop} (h : p := by first | exact .ptr rfl | exact .map rfl | exact .vec rfl | exact .same rfl (by first | exact .val _ | exact .ptr (nb rfl) | exact .map (nb rfl) | exact k8 _ _ _) | exact .same rfl (k8 _ ([] : List Str) _)) : p := h
theorem Y9 {p : Prop} (h : p := by first | exact a1Y (by intro a; rfl) _ | assumption | (intro r hr; exact a1Y (by intro a; rfl) _ r (List.mem_of_mem_take (List.mem_of_mem_drop hr))) | (intro r hr; simp at hr; obtain ⟨a, _, rfl⟩ := hr; rfl)) : p := h
theorem b5v {p : Prop} (h : p := by first | exact .ptr rfl | exact .map rfl | exact .vec rfl | exact .same rfl (by first | exact .val _ | exact .ptr (nb rfl) | exact .map (nb rfl) | exact J3 _ _ _) | exact .same rfl (J3 _ ([] : Str) _)) : p := h
theorem b8Z {p : Prop} (h : p := by exact (y9 (([[43], [45], [42], [47], [37], [60], [61, 61]] : List Str).map scv) rfl ⟨rfl, rfl, rfl, rfl, rfl, rfl, rfl, tt⟩ Tryz.runUnderlying26 Tryz.sizeOf9 Tryz.zeroValue9 rfl rfl rfl rfl rfl rfl rfl rfl rfl)) : p := h
theorem b6G {p : Prop} (h : p := by first | exact .val _ | exact .ptr (nb rfl) | exact .map (nb rfl) | exact (by first | exact K7 _ _ | exact D4 _ _ _ | exact K1 _ _ _ | exact k8 _ _ _ | exact J3 _ _ _)) : p := h
theorem a1k {p : Prop} (h : p := by first | exact .ptr rfl | exact .map rfl | exact .vec rfl | exact .same rfl (by first | exact .val _ | exact .ptr (nb rfl) | exact .map (nb rfl) | exact k8 _ _ _ | exact N3 _ _ _ _)) : p := h
theorem T0 {p : Prop} (h : p := by first | exact .ptr rfl | exact .map rfl | exact .vec rfl | exact .same rfl (by first | exact .val _ | exact .ptr (nb rfl) | exact .map (nb rfl) | exact k8 _ _ _ | exact D4 _ _ _)) : p := h
theorem a2k {p : Prop} (h : p := by first | exact .ptr rfl | exact .map rfl | exact .vec rfl | exact .same rfl (by first | exact .val _ | exact .ptr (nb rfl) | exact .map (nb rfl) | exact I5 _ _ _ | exact k8 _ _ _)) : p := h
theorem b8g {p : Prop} (h : p := by exact (r5 rfl tt tt rfl rfl Tryz.runUnderlying22 Tryz.sizeOf3 (by omega) (m7 (by rw [show (((m + 1 : Nat) : Int) - 1).toNat = m by omega, hnd.args]; exact S4 hc)) rfl)) : p := h
theorem a0o {p : Prop} (h : p := by first | exact .ptr rfl | exact .map rfl | exact .vec rfl | exact .same rfl (by first | exact .val _ | exact .ptr (nb rfl) | exact .map (nb rfl) | exact k8 _ _ _)) : p := h
theorem D2 {p : Prop} (h : p := by first | exact .ptr rfl | exact .map rfl | exact .vec rfl | exact .same rfl (by first | exact .val _ | exact .ptr (nb rfl) | exact .map (nb rfl) | exact z7 _ _ _)) : p := h
theorem b8y {p : Prop} (h : p := by rw [hh, hr]; exact ⟨(), .ret (.old (.tup fun i c hi => by rcases i with _ | _ | i <;> first | (injection hi with hi; subst hi; exact .val _) | cases hi)), tt⟩) : p := h
theorem b8U {p : Prop} (h : p := by exact (t6 #[(0, 1), (1, 1), (2, 1), (3, 1), (4, 1)] rfl ⟨rfl, tt, tt, tt⟩ Tryz.runUnderlying208 Tryz.zeroValue208 rfl ⟨_, rfl⟩ (fun w => by kernel_rfl) rfl rfl)) : p := h
theorem a1C {p : Prop} (h : p := by first | omega | (simp only [F1, List.length_cons, List.length_nil] at hb ⊢; omega) | (simp only [F1, List.length_cons, List.length_nil]; omega)) : p := h
theorem b8W {p : Prop} (h : p := by exact (fun hg => r5 rfl hg hg rfl rfl Tryz.runUnderlying30 Tryz.sizeOf57 (by first | omega | (simp at hg; omega)) (m7 (hp (by simp at hg; omega)).1) rfl)) : p := h
theorem a79 {p : Prop} (h : p := by exact (t6 #[(0, 1), (1, 1), (2, 1), (3, 1), (4, 1)] rfl ⟨rfl, tt, tt⟩ Tryz.runUnderlying208 Tryz.zeroValue208 rfl ⟨_, rfl⟩ (fun w => by kernel_rfl) rfl rfl)) : p := h
theorem b8z {p : Prop} (h : p := by exact (a0T (vc := vcE) (l := me) (a := (C6 x.k x.p x.o)) b6F rfl tt tt rfl rfl Tryz.runUnderlying103 Tryz.zeroValue62 rfl rfl (a17 En.z rfl _))) : p := h
theorem b8F {p : Prop} (h : p := by exact (fun hg => M8 rfl hg hg rfl rfl Tryz.runUnderlying9 (by first | omega | (simp at hg; omega)) (b := s[e]?.getD 0) (b0h (by simp at hg; omega)))) : p := h
theorem b88 {p : Prop} (h : p := by exact (k7 rfl (J7 (vc := sv) (l := S0) (a := o) R5 rfl tt tt rfl rfl Tryz.runUnderlying193 Tryz.zeroValue9 rfl rfl (a17 ([] : Str) rfl _)))) : p := h
theorem a0D {p : Prop} (h : p := by first | exact .ptr rfl | exact .map rfl | exact .vec rfl | exact .same rfl (by first | exact .val _ | exact .ptr (nb rfl) | exact .map (nb rfl))) : p := h
theorem b2A {p : Prop} (h : p := by exact (t6 #[(0, 1), (1, 1), (2, 1), (3, 1)] rfl ⟨rfl, tt, tt⟩ Tryz.runUnderlying227 Tryz.zeroValue227 rfl ⟨_, rfl⟩ (fun w => by kernel_rfl) rfl rfl)) : p := h
theorem b8B {p : Prop} (h : p := by exact (a0T (vc := vcE) (l := me) (a := (C6 k p o)) b6F rfl tt tt rfl rfl Tryz.runUnderlying103 Tryz.zeroValue62 rfl rfl (a17 En.z rfl _))) : p := h
theorem b8j {p : Prop} (h : p := by exact (t6 #[(0, 1), (1, 1), (2, 1)] rfl ⟨tt, tt, tt, tt⟩ Tryz.runUnderlying164 Tryz.zeroValue164 rfl ⟨_, rfl⟩ (fun w => by kernel_rfl) rfl rfl)) : p := h
theorem a8U {p : Prop} (h : p := by exact (k7 rfl (t6 #[(0, 1), (1, 1)] rfl ⟨tt, tt, tt⟩ Tryz.runUnderlying57 Tryz.zeroValue57 rfl ⟨_, rfl⟩ (fun w => by kernel_rfl) rfl rfl))) : p := h
theorem b85 {p : Prop} (h : p := by exact (t6 #[(0, 1), (1, 1), (2, 1)] rfl ⟨rfl, rfl, tt⟩ Tryz.runUnderlying39 Tryz.zeroValue39 rfl ⟨_, rfl⟩ (fun w => by kernel_rfl) rfl rfl)) : p := h
theorem b89 {p : Prop} (h : p := by exact (k7 rfl (t6 #[(0, 1), (1, 1), (2, 1)] rfl tt Tryz.runUnderlying69 Tryz.zeroValue69 rfl ⟨_, rfl⟩ (fun w => by kernel_rfl) rfl rfl))) : p := h
theorem b8X {p : Prop} (h : p := by exact (a0T (vc := vcS) (l := ms) (a := y.p) a9N rfl tt tt rfl rfl Tryz.runUnderlying102 Tryz.zeroValue69 rfl rfl (a17 Src.z rfl _))) : p := h
theorem b6y {p : Prop} (h : p := by exact (t6 #[(0, 1), (1, 1), (2, 1)] rfl ⟨rfl, tt, tt⟩ Tryz.runUnderlying39 Tryz.zeroValue39 rfl ⟨_, rfl⟩ (fun w => by kernel_rfl) rfl rfl)) : p := h
theorem b52 {p : Prop} (h : p := by exact (t6 #[(0, 1), (1, 1), (2, 1), (3, 1)] rfl tt Tryz.runUnderlying227 Tryz.zeroValue227 rfl ⟨_, rfl⟩ (fun w => by kernel_rfl) rfl rfl)) : p := h
theorem b77 {p : Prop} (h : p := by exact (J7 (vc := kv) (l := m) (a := (b.toNat : Int)) b6R rfl tt tt rfl rfl Tryz.runUnderlying155 Tryz.zeroValue3 rfl rfl (a7j _ _))) : p := h
theorem b8V {p : Prop} (h : p := by exact (y9 (W2.map scv) rfl ⟨rfl, rfl, rfl, tt⟩ Tryz.runUnderlying26 Tryz.sizeOf9 Tryz.zeroValue9 rfl rfl rfl rfl rfl rfl rfl rfl rfl)) : p := h
theorem b8w {p : Prop} (h : p := by exact .ret (.tups ⟨.old (c := .agg ((⟨[], [], []⟩ : Src)).cells) (d7 (Src.pure _)).old, .old (.val _), .old (.val _), tt⟩)) : p := h
theorem b8O {p : Prop} (h : p := by exact (t6 #[(0, 1), (1, 1)] rfl ⟨rfl, rfl, tt⟩ Tryz.runUnderlying57 Tryz.zeroValue57 rfl ⟨_, rfl⟩ (fun w => by kernel_rfl) rfl rfl)) : p := h
theorem b8K {p : Prop} (h : p := by exact (r5 rfl tt tt rfl rfl Tryz.runUnderlying115 Tryz.sizeOf208 (by omega) (m7 (by rw [hmi, hbody]; exact hdp2.he)) rfl)) : p := h
theorem b79 {p : Prop} (h : p := by exact .inl ⟨n + 1, S5 rfl (.tup fun i c h => by simp at h), by rw [pIs, if_pos hb], hW n hn (a7M hb (by decide))⟩) : p := h
theorem b6V {p : Prop} (h : p := by first | exact K7 _ _ | exact D4 _ _ _ | exact K1 _ _ _ | exact k8 _ _ _ | exact J3 _ _ _) : p := h
theorem b83 {p : Prop} (h : p := by first | exact K7 _ _ | exact b3H _ _ _ | exact D4 _ _ _ | exact k8 _ _ _ | exact J3 _ _ _) : p := h
theorem b84 {p : Prop} (h : p := by exact (fun hg => n8 rfl hg rfl Tryz.isAgg9 (by first | exact b1I _ _ | exact W5 hq _ | exact W5 hs _) rfl)) : p := h
theorem b6e {p : Prop} (h : p := by exact (y9 [Fi.cv y] rfl ⟨tt, tt⟩ Tryz.runUnderlying30 Tryz.sizeOf57 Tryz.zeroValue57 rfl rfl rfl rfl rfl rfl rfl rfl rfl)) : p := h
theorem b7M {p : Prop} (h : p := by exact (fun hg => a4g rfl hg rfl rfl rfl (by first | omega | (simp at hg; omega)) (by first | omega | (simp at hg; omega)))) : p := h
theorem b87 {p : Prop} (h : p := by exact (y9 [Fi.cv f] rfl ⟨tt, tt⟩ Tryz.runUnderlying30 Tryz.sizeOf57 Tryz.zeroValue57 rfl rfl rfl rfl rfl rfl rfl rfl rfl)) : p := h
theorem b8a {p : Prop} (h : p := by rw [eT]; simp only [← List.append_assoc b]; exact a6O (k := 6) rfl rfl (by decide) (A2 _ _ _ _ _) a0y) : p := h
theorem b8k {p : Prop} (h : p := by rw [eT]; simp only [← List.append_assoc b]; exact a6O (k := 5) rfl rfl (by decide) (A2 _ _ _ _ _) a0y) : p := h
theorem b8i {p : Prop} (h : p := by exact ⟨by show List.length _ ≤ _; simp only [List.length_append, List.length_cons, List.length_nil]; omega, rfl⟩) : p := h
theorem b3v {p : Prop} (h : p := by exact .inl ⟨(i, m, b2), O9 rfl rfl (nb rfl) (.val _), by rw [hsp]; exact g1, by dsimp only; omega, g3, g4⟩) : p := h
theorem b8D {p : Prop} (h : p := by exact (y9 [bcv c] rfl ⟨tt, tt⟩ Tryz.runUnderlying139 Tryz.sizeOf5 Tryz.zeroValue5 rfl rfl rfl rfl rfl rfl rfl rfl rfl)) : p := h
theorem b8x {p : Prop} (h : p := by exact (k7 rfl (G4 rfl tt rfl rfl rfl (by show ([32] ++ sgn o : Str).length + 1 ≤ _; rw [F1]; simp; omega)))) : p := h
theorem b8p {p : Prop} (h : p := by exact (G4 rfl tt rfl rfl rfl (by first | omega | (simp only [F1, List.length_cons, List.length_nil]; omega)))) : p := h
theorem b7S {p : Prop} (h : p := by exact (t6 #[(0, 1)] rfl tt Tryz.runUnderlying25 Tryz.zeroValue25 rfl ⟨_, rfl⟩ (fun w => by kernel_rfl) rfl rfl)) : p := h
theorem b8T {p : Prop} (h : p := by exact (n8 rfl tt rfl Tryz.isAgg3 (by first | exact b1I _ _ | exact W5 hq _ | exact W5 hs _) rfl)) : p := h
theorem b70 {p : Prop} (h : p := by exact (r5 rfl tt rfl rfl rfl Tryz.runUnderlying22 Tryz.sizeOf3 (by omega) (m7 (S4 g0)) rfl)) : p := h
theorem b8e {p : Prop} (h : p := by exact (r5 rfl tt rfl rfl rfl Tryz.runUnderlying22 Tryz.sizeOf3 (by omega) (m7 (S4 g1)) rfl)) : p := h
theorem b8c {p : Prop} (h : p := by exact .inl ⟨(i6, n + 1, b6), O9 rfl rfl (nb rfl) (.val _), hsp, by dsimp only; omega, hn1, y6⟩) : p := h
theorem b8R {p : Prop} (h : p := by exact (r5 rfl tt tt rfl rfl Tryz.runUnderlying22 Tryz.sizeOf3 (by omega) (m7 (S4 gm)) rfl)) : p := h
theorem a0K {p : Prop} (h : p := by show List.length _ ≤ _; simp only [List.length_append, List.length_cons, List.length_nil]; omega) : p := h
theorem b5R {p : Prop} (h : p := by exact .inl ⟨(i6, n5, b6), O9 rfl rfl (nb rfl) (.val _), hsp, by dsimp only; omega, kn5, y6⟩) : p := h
theorem b3Z {p : Prop} (h : p := by first | exact K7 _ _ | exact D4 _ _ _ | exact k8 _ _ _ | exact J3 _ _ _) : p := h
theorem b73 {p : Prop} (h : p := by first | omega | (simp at hk hg; omega) | (change (_ : Bool) = _ at hk; simp at hk hg; omega)) : p := h
theorem b8u {p : Prop} (h : p := by exact (i8 rfl Tryz.call266 ⟨tt, tt⟩ (Y0 d.name (by have := B1 hnm.1; omega) _) rfl)) : p := h
theorem b22 {p : Prop} (h : p := by have hb : Tryz.t57.bytes = 32 := rfl; rw [hb]; first | omega | (simp; done) | (simp; omega)) : p := h
theorem a6i {p : Prop} (h : p := by have hb : Tryz.t9.bytes = 16 := rfl; rw [hb]; first | omega | (simp; done) | (simp; omega)) : p := h
theorem b7U {p : Prop} (h : p := by exact (i8 rfl Tryz.call191 ⟨tt, tt⟩ (a1D hT hn ⟨rfl, rfl, Nat.ne_of_beq_eq_false rfl⟩) rfl)) : p := h
theorem a7G {p : Prop} (h : p := by exact (G4 rfl tt rfl rfl rfl (by simp only [F1, List.length_cons, List.length_nil]; omega))) : p := h
theorem a9h {p : Prop} (h : p := by exact k7 rfl (l8 rfl tt rfl Tryz.runUnderlying301 rfl Tryz.sizeOf240 (by decide))) : p := h
theorem b4K {p : Prop} (h : p := by exact (G4 rfl rfl tt rfl rfl (by simp only [F1, List.length_cons, List.length_nil]; omega))) : p := h
theorem b5S {p : Prop} (h : p := by exact (r5 rfl tt tt rfl rfl Tryz.runUnderlying67 Tryz.sizeOf117 (by omega) (m7 hd) rfl)) : p := h
theorem b7T {p : Prop} (h : p := by exact (S7 rfl tt rfl Tryz.isAgg3 rfl (by rw [hmi]; simpa using m7 (f := icv) hv) rfl)) : p := h
theorem b7e {p : Prop} (h : p := by exact k7 rfl (l8 rfl tt rfl Tryz.runUnderlying25 rfl Tryz.sizeOf23 (by decide))) : p := h
theorem a5l {p : Prop} (h : p := by exact (r5 rfl tt tt rfl rfl Tryz.runUnderlying30 Tryz.sizeOf57 (by omega) (m7 hb) rfl)) : p := h
theorem a6a {p : Prop} (h : p := by exact k7 rfl (l8 rfl tt rfl Tryz.runUnderlying57 rfl Tryz.sizeOf9 (by decide))) : p := h
theorem a7E {p : Prop} (h : p := by exact (r5 rfl tt tt rfl rfl Tryz.runUnderlying26 Tryz.sizeOf9 (by omega) (m7 hb) rfl)) : p := h
theorem b7Q {p : Prop} (h : p := by exact (i8 rfl Tryz.call97 ⟨tt, tt, tt⟩ (a9T (a0Y hσ _) _ (hok.find _ _ _)) rfl)) : p := h
theorem b7d {p : Prop} (h : p := by exact (r5 rfl tt tt rfl rfl Tryz.runUnderlying26 Tryz.sizeOf9 (by omega) (m7 hy) rfl)) : p := h
theorem a5Z {p : Prop} (h : p := by exact (W6 rfl tt tt rfl rfl Tryz.runUnderlying22 Tryz.sizeOf3 rfl (by omega) (by omega))) : p := h
theorem b7p {p : Prop} (h : p := by exact (k7 rfl (l8 rfl tt rfl Tryz.runUnderlying301 rfl Tryz.sizeOf240 (by decide)))) : p := h
theorem b7X {p : Prop} (h : p := by exact (k7 rfl (l8 rfl tt rfl Tryz.runUnderlying69 rfl Tryz.sizeOf67 (by decide)))) : p := h
theorem b7D {p : Prop} (h : p := by rw [eT]; exact a6O (k := 3) rfl rfl (by decide) (A2 _ _ _ _ _) a0y) : p := h
theorem b3q {p : Prop} (h : p := by exact k7 rfl (M4 rfl tt rfl Tryz.isAgg227 Tryz.sizeOf227 rfl (nb rfl))) : p := h
theorem b4J {p : Prop} (h : p := by exact (k7 rfl (l8 rfl tt rfl Tryz.runUnderlying57 rfl Tryz.sizeOf9 (by decide)))) : p := h
theorem a9Q {p : Prop} (h : p := by exact (U8 rfl tt rfl Tryz.runUnderlying115 (by first | exact Z3 _ _ | rfl) rfl)) : p := h
theorem a9f {p : Prop} (h : p := by exact (fun hg => l8 rfl tt rfl Tryz.runUnderlying208 rfl Tryz.sizeOf3 (by decide))) : p := h
theorem b0e {p : Prop} (h : p := by exact (U8 rfl tt rfl Tryz.runUnderlying139 (by first | exact Z3 _ _ | rfl) rfl)) : p := h
theorem b6E {p : Prop} (h : p := by exact (fun hg => l8 rfl tt rfl Tryz.runUnderlying227 rfl Tryz.sizeOf9 (by decide))) : p := h
theorem b5Y {p : Prop} (h : p := by exact (fun hg => l8 rfl tt rfl Tryz.runUnderlying208 rfl Tryz.sizeOf9 (by decide))) : p := h
theorem Q1 {p : Prop} (h : p := by exact k7 rfl (M4 rfl tt rfl Tryz.isAgg32 Tryz.sizeOf32 rfl (nb rfl))) : p := h
theorem R1 {p : Prop} (h : p := by exact (U8 rfl tt rfl Tryz.runUnderlying26 (by first | exact Z3 _ _ | rfl) rfl)) : p := h
theorem a3I {p : Prop} (h : p := by exact (U8 rfl tt rfl Tryz.runUnderlying30 (by first | exact Z3 _ _ | rfl) rfl)) : p := h
theorem a4e {p : Prop} (h : p := by exact (U8 rfl tt rfl Tryz.runUnderlying22 (by first | exact Z3 _ _ | rfl) rfl)) : p := h
theorem a6N {p : Prop} (h : p := by exact (U8 rfl tt rfl Tryz.runUnderlying67 (by first | exact Z3 _ _ | rfl) rfl)) : p := h
theorem a8X {p : Prop} (h : p := by exact (fun hg => l8 rfl tt rfl Tryz.runUnderlying39 rfl Tryz.sizeOf9 (by decide))) : p := h
theorem b1T {p : Prop} (h : p := by exact (fun hg => l8 rfl tt rfl Tryz.runUnderlying57 rfl Tryz.sizeOf9 (by decide))) : p := h
theorem b4m {p : Prop} (h : p := by exact (U8 rfl tt rfl Tryz.runUnderlying23 (by first | exact Z3 _ _ | rfl) rfl)) : p := h
theorem b5O {p : Prop} (h : p := by exact (b9a rfl tt rfl Tryz.runUnderlying139 Tryz.runUnderlying9 Tryz.runUnderlying5)) : p := h
theorem a9l {p : Prop} (h : p := by exact (i8 rfl Tryz.call191 ⟨tt, tt⟩ (a1D hT hn ⟨rfl, rfl, by decide⟩) rfl)) : p := h
theorem b3W {p : Prop} (h : p := by simp only [F1, List.length_cons, List.length_nil] at hbm ⊢; omega) : p := h
theorem b10 {p : Prop} (h : p := by exact (k7 rfl (G4 rfl tt rfl rfl rfl (by first | omega | (simp; omega))))) : p := h
theorem a1f {p : Prop} (h : p := by exact (l8 rfl tt rfl Tryz.runUnderlying301 rfl Tryz.sizeOf240 (by decide))) : p := h
theorem U4 {p : Prop} (h : p := by exact (l8 rfl tt rfl Tryz.runUnderlying240 rfl Tryz.sizeOf139 (by decide))) : p := h
theorem a3c {p : Prop} (h : p := by exact (l8 rfl tt rfl Tryz.runUnderlying117 rfl Tryz.sizeOf115 (by decide))) : p := h
theorem a6R {p : Prop} (h : p := by exact (l8 rfl tt rfl Tryz.runUnderlying240 rfl Tryz.sizeOf238 (by decide))) : p := h
theorem a7c {p : Prop} (h : p := by exact (l8 rfl tt rfl Tryz.runUnderlying188 rfl Tryz.sizeOf115 (by decide))) : p := h
theorem a6x {p : Prop} (h : p := by exact (l8 rfl tt rfl Tryz.runUnderlying105 rfl Tryz.sizeOf103 (by decide))) : p := h
theorem a8l {p : Prop} (h : p := by exact (l8 rfl tt rfl Tryz.runUnderlying105 rfl Tryz.sizeOf102 (by decide))) : p := h
theorem a8Z {p : Prop} (h : p := by exact (k7 rfl (G4 rfl tt tt rfl rfl (by first | omega | (simp; omega))))) : p := h
theorem a1g {p : Prop} (h : p := by exact (l8 rfl tt rfl Tryz.runUnderlying208 rfl Tryz.sizeOf22 (by decide))) : p := h
theorem a4o {p : Prop} (h : p := by exact (l8 rfl tt rfl Tryz.runUnderlying117 rfl Tryz.sizeOf26 (by decide))) : p := h
theorem b3J {p : Prop} (h : p := by exact (l8 rfl tt rfl Tryz.runUnderlying184 rfl Tryz.sizeOf40 (by decide))) : p := h
theorem O4 {p : Prop} (h : p := by exact (l8 rfl tt rfl Tryz.runUnderlying32 rfl Tryz.sizeOf30 (by decide))) : p := h
theorem O6 {p : Prop} (h : p := by exact (l8 rfl tt rfl Tryz.runUnderlying188 rfl Tryz.sizeOf3 (by decide))) : p := h
theorem V3 {p : Prop} (h : p := by exact (l8 rfl tt rfl Tryz.runUnderlying227 rfl Tryz.sizeOf9 (by decide))) : p := h
theorem Z1 {p : Prop} (h : p := by exact (l8 rfl tt rfl Tryz.runUnderlying208 rfl Tryz.sizeOf3 (by decide))) : p := h
theorem a0F {p : Prop} (h : p := by exact (k7 rfl (M4 rfl tt rfl Tryz.isAgg32 Tryz.sizeOf32 rfl (nb rfl)))) : p := h
theorem a1Z {p : Prop} (h : p := by exact (l8 rfl tt rfl Tryz.runUnderlying227 rfl Tryz.sizeOf3 (by decide))) : p := h
theorem a5a {p : Prop} (h : p := by exact (l8 rfl tt rfl Tryz.runUnderlying69 rfl Tryz.sizeOf67 (by decide))) : p := h
theorem a8u {p : Prop} (h : p := by exact (l8 rfl tt rfl Tryz.runUnderlying25 rfl Tryz.sizeOf23 (by decide))) : p := h
theorem a4i {p : Prop} (h : p := by exact (l8 rfl tt rfl Tryz.runUnderlying117 rfl Tryz.sizeOf9 (by decide))) : p := h
theorem a4P {p : Prop} (h : p := by exact (l8 rfl tt rfl Tryz.runUnderlying69 rfl Tryz.sizeOf26 (by decide))) : p := h
theorem a6o {p : Prop} (h : p := by exact (l8 rfl tt rfl Tryz.runUnderlying117 rfl Tryz.sizeOf3 (by decide))) : p := h
theorem a9q {p : Prop} (h : p := by exact (l8 rfl tt rfl Tryz.runUnderlying301 rfl Tryz.sizeOf3 (by decide))) : p := h
theorem b1f {p : Prop} (h : p := by exact (l8 rfl tt rfl Tryz.runUnderlying208 rfl Tryz.sizeOf9 (by decide))) : p := h
theorem b3z {p : Prop} (h : p := by exact (l8 rfl tt rfl Tryz.runUnderlying105 rfl Tryz.sizeOf4 (by decide))) : p := h
theorem O5 {p : Prop} (h : p := by exact (l8 rfl tt rfl Tryz.runUnderlying57 rfl Tryz.sizeOf9 (by decide))) : p := h
theorem Z0 {p : Prop} (h : p := by exact (l8 rfl tt rfl Tryz.runUnderlying39 rfl Tryz.sizeOf9 (by decide))) : p := h
theorem a5n {p : Prop} (h : p := by exact (l8 rfl tt rfl Tryz.runUnderlying29 rfl Tryz.sizeOf3 (by decide))) : p := h
theorem a9n {p : Prop} (h : p := by exact (l8 rfl tt rfl Tryz.runUnderlying69 rfl Tryz.sizeOf9 (by decide))) : p := h
theorem a8A {p : Prop} (h : p := by exact (l8 rfl tt rfl Tryz.runUnderlying62 rfl Tryz.sizeOf3 (by decide))) : p := h
theorem b4b {p : Prop} (h : p := by exact (l8 rfl tt rfl Tryz.runUnderlying62 rfl Tryz.sizeOf9 (by decide))) : p := h
theorem b1s {p : Prop} (h : p := by exact (i8 rfl Tryz.call64 ⟨tt, tt⟩ (W8 x.a (by omega) _) rfl)) : p := h
theorem b11 {p : Prop} (h : p := by exact (i8 rfl Tryz.call57 ⟨tt, tt⟩ (a9z m (by omega) _) rfl)) : p := h
theorem b3L {p : Prop} (h : p := by exact (k7 rfl (i8 rfl Tryz.call23 trivial (a0k _) rfl))) : p := h
theorem a2N {p : Prop} (h : p := by simp only [F1, List.length_cons, List.length_nil]; omega) : p := h
theorem b1A {p : Prop} (h : p := by exact (a19 rfl tt rfl Tryz.runUnderlying227 rfl Tryz.isAgg9 rfl)) : p := h
theorem J5 {p : Prop} (h : p := by exact (G4 rfl tt rfl rfl rfl (by first | omega | (simp; omega)))) : p := h
theorem R6 {p : Prop} (h : p := by exact (G4 rfl rfl tt rfl rfl (by first | omega | (simp; omega)))) : p := h
theorem a8E {p : Prop} (h : p := by exact (l2 ⟨.val _, .val _, .val _, .val _, D4 _ _ _, tt⟩)) : p := h
theorem a8s {p : Prop} (h : p := by cases ph <;> exact ⟨rfl, rfl, Nat.ne_of_beq_eq_false rfl⟩) : p := h
theorem b1H {p : Prop} (h : p := by exact k7 rfl (n8 rfl tt rfl Tryz.isAgg40 rfl rfl)) : p := h
theorem b5P {p : Prop} (h : p := by exact (i8 rfl Tryz.call91 ⟨tt, tt⟩ (b0m fl nn hl _) rfl)) : p := h
theorem b4k {p : Prop} (h : p := by exact k7 rfl (n8 rfl tt rfl Tryz.isAgg23 rfl rfl)) : p := h
theorem C7 {p : Prop} (h : p := by exact (M4 rfl tt rfl Tryz.isAgg227 Tryz.sizeOf227 rfl (nb rfl))) : p := h
theorem a0C {p : Prop} (h : p := by exact (G4 rfl tt tt rfl rfl (by first | omega | (simp; omega)))) : p := h
theorem a1x {p : Prop} (h : p := by exact k7 rfl (n8 rfl tt rfl Tryz.isAgg9 rfl rfl)) : p := h
theorem a2m {p : Prop} (h : p := by exact (M4 rfl tt rfl Tryz.isAgg208 Tryz.sizeOf208 rfl (nb rfl))) : p := h
theorem a6T {p : Prop} (h : p := by exact (M4 rfl tt rfl Tryz.isAgg164 Tryz.sizeOf164 rfl (nb rfl))) : p := h
theorem a6G {p : Prop} (h : p := by exact k7 rfl (n8 rfl tt rfl Tryz.isAgg3 rfl rfl)) : p := h
theorem b4I {p : Prop} (h : p := by exact (M4 rfl tt rfl Tryz.isAgg297 Tryz.sizeOf297 rfl (nb rfl))) : p := h
theorem b3T {p : Prop} (h : p := by first | exact a1Y (by intro a; rfl) _ | assumption) : p := h
theorem Q5 {p : Prop} (h : p := by exact (M4 rfl tt rfl Tryz.isAgg32 Tryz.sizeOf32 rfl (nb rfl))) : p := h
theorem A0 {p : Prop} (h : p := by exact k7 rfl (a0h rfl tt (by conv => lhs; whnf))) : p := h
theorem a2n {p : Prop} (h : p := by exact (M4 rfl tt rfl Tryz.isAgg25 Tryz.sizeOf25 rfl (nb rfl))) : p := h
theorem a6H {p : Prop} (h : p := by exact (Q2 rfl tt rfl Tryz.isAgg117 Tryz.sizeOf117 (nb rfl))) : p := h
theorem a6r {p : Prop} (h : p := by exact (M4 rfl tt rfl Tryz.isAgg69 Tryz.sizeOf69 rfl (nb rfl))) : p := h
theorem a6U {p : Prop} (h : p := by exact (M4 rfl tt rfl Tryz.isAgg57 Tryz.sizeOf57 rfl (nb rfl))) : p := h
theorem a8D {p : Prop} (h : p := by exact (M4 rfl tt rfl Tryz.isAgg39 Tryz.sizeOf39 rfl (nb rfl))) : p := h
theorem b1U {p : Prop} (h : p := by exact (M4 rfl tt rfl Tryz.isAgg62 Tryz.sizeOf62 rfl (nb rfl))) : p := h
theorem b5A {p : Prop} (h : p := by exact (Q2 rfl tt rfl Tryz.isAgg208 Tryz.sizeOf208 (nb rfl))) : p := h
theorem a1c {p : Prop} (h : p := by exact (Q2 rfl tt rfl Tryz.isAgg57 Tryz.sizeOf57 (nb rfl))) : p := h
theorem b1P {p : Prop} (h : p := by exact (i8 rfl Tryz.call24 trivial (a5I _) rfl)) : p := h
theorem b1v {p : Prop} (h : p := by exact (l2 ⟨.val _, k8 _ [] _, I5 _ [] _, tt⟩)) : p := h
theorem t8 {p : Prop} (h : p := by exact (a2C rfl tt rfl (fun hp => hp) (fun _ => rfl))) : p := h
theorem b5z {p : Prop} (h : p := by exact (k7 rfl (n8 rfl tt rfl Tryz.isAgg27 rfl rfl))) : p := h
theorem G5 {p : Prop} (h : p := by exact (b3e rfl tt rfl (fun hp => hp) (fun _ => rfl))) : p := h
theorem a1e {p : Prop} (h : p := by exact (k7 rfl (a5k rfl tt (by conv => lhs; whnf)))) : p := h
theorem a6n {p : Prop} (h : p := by exact (k7 rfl (n8 rfl tt rfl Tryz.isAgg9 rfl rfl))) : p := h
theorem a6S {p : Prop} (h : p := by exact (fun hg => a0i rfl hg rfl rfl rfl (a2J _ _))) : p := h
theorem a60 {p : Prop} (h : p := by first | exact hkp.1 | exact hkp.2.1 | exact hkk) : p := h
theorem a9H {p : Prop} (h : p := by exact (k7 rfl (n8 rfl tt rfl Tryz.isAgg3 rfl rfl))) : p := h
theorem b1C {p : Prop} (h : p := by exact (i8 rfl Tryz.call81 trivial (b0Q _) rfl)) : p := h
theorem a3x {p : Prop} (h : p := by exact (fun hg => a0i rfl hg hg rfl rfl (a2J _ _))) : p := h
theorem x8 {p : Prop} (h : p := by exact (k7 rfl (a0h rfl tt (by conv => lhs; whnf)))) : p := h
theorem U7 {p : Prop} (h : p := by exact (fun hg => n8 rfl hg rfl Tryz.isAgg9 rfl rfl)) : p := h
theorem a3d {p : Prop} (h : p := by exact (fun hg => n8 rfl hg rfl Tryz.isAgg3 rfl rfl)) : p := h
theorem b1k {p : Prop} (h : p := by rw [List.length_map, List.length_take]; omega) : p := h
theorem a4h {p : Prop} (h : p := by exact (fun hg => b5k rfl hg rfl Tryz.runUnderlying9)) : p := h
theorem b1l {p : Prop} (h : p := by first | omega | (simp; done) | (simp; omega)) : p := h
theorem m9 {p : Prop} (h : p := by exact (b43 rfl tt rfl rfl rfl (by omega) (by omega))) : p := h
theorem o5 {p : Prop} (h : p := by exact (fun hg => a0h rfl tt (by conv => lhs; whnf))) : p := h
theorem R7 {p : Prop} (h : p := by exact (a4g rfl tt rfl rfl rfl (by omega) (by omega))) : p := h
theorem a3o {p : Prop} (h : p := by exact (b43 rfl tt tt rfl rfl (by omega) (by omega))) : p := h
theorem a3f {p : Prop} (h : p := by exact k7 rfl (a3U rfl tt rfl rfl)) : p := h
theorem a6D {p : Prop} (h : p := by exact (a7o (by decide) (by decide) (by decide))) : p := h
theorem b1O {p : Prop} (h : p := by rw [es]; simp only [List.append_assoc]) : p := h
theorem K8 {p : Prop} (h : p := by exact (a0i rfl tt rfl rfl rfl (a2J _ _))) : p := h
theorem a0a {p : Prop} (h : p := by exact (n8 rfl tt rfl Tryz.isAgg115 rfl rfl)) : p := h
theorem a0O {p : Prop} (h : p := by exact (n8 rfl tt rfl Tryz.isAgg139 rfl rfl)) : p := h
theorem a4q {p : Prop} (h : p := by exact (l2 ⟨z7 _ ([] : List Fi) _, tt⟩)) : p := h
theorem a6V {p : Prop} (h : p := by exact (n8 rfl tt rfl Tryz.isAgg103 rfl rfl)) : p := h
theorem a82 {p : Prop} (h : p := by exact (n8 rfl tt rfl Tryz.isAgg238 rfl rfl)) : p := h
theorem a9C {p : Prop} (h : p := by exact (n8 rfl tt rfl Tryz.isAgg102 rfl rfl)) : p := h
theorem j1 {p : Prop} (h : p := by exact (a5k rfl rfl (by conv => lhs; whnf))) : p := h
theorem K0 {p : Prop} (h : p := by first | omega | (simp; omega) | simp) : p := h
theorem R2 {p : Prop} (h : p := by exact (n8 rfl tt rfl Tryz.isAgg26 rfl rfl)) : p := h
theorem V7 {p : Prop} (h : p := by exact (n8 rfl tt rfl Tryz.isAgg30 rfl rfl)) : p := h
theorem a1h {p : Prop} (h : p := by exact (n8 rfl tt rfl Tryz.isAgg27 rfl rfl)) : p := h
theorem a1S {p : Prop} (h : p := by exact (n8 rfl tt rfl Tryz.isAgg22 rfl rfl)) : p := h
theorem a3e {p : Prop} (h : p := by exact (a0i rfl tt tt rfl rfl (a2J _ _))) : p := h
theorem a3m {p : Prop} (h : p := by exact (n8 rfl tt rfl Tryz.isAgg67 rfl rfl)) : p := h
theorem b1Q {p : Prop} (h : p := by exact (n8 rfl tt rfl Tryz.isAgg23 rfl rfl)) : p := h
theorem a6J {p : Prop} (h : p := by exact (a0i rfl tt tt rfl rfl (a5D _ _))) : p := h
theorem c7 {p : Prop} (h : p := by exact (a5k rfl tt (by conv => lhs; whnf))) : p := h
theorem s7 {p : Prop} (h : p := by exact (n8 rfl tt rfl Tryz.isAgg9 rfl rfl)) : p := h
theorem z8 {p : Prop} (h : p := by exact (n8 rfl tt rfl Tryz.isAgg3 rfl rfl)) : p := h
theorem C5 {p : Prop} (h : p := by exact (fun hg => a1d rfl hg rfl rfl rfl rfl)) : p := h
theorem a4d {p : Prop} (h : p := by first | omega | (simp at hg; omega)) : p := h
theorem A7 {p : Prop} (h : p := by exact (a0h rfl rfl (by conv => lhs; whnf))) : p := h
theorem I3 {p : Prop} (h : p := by exact (b5k rfl tt rfl Tryz.runUnderlying9)) : p := h
theorem Z2 {p : Prop} (h : p := by exact k7 rfl (b4Y rfl tt rfl)) : p := h
theorem a4Q {p : Prop} (h : p := by exact (fun hg => a1d rfl hg hg rfl rfl rfl)) : p := h
theorem a9P {p : Prop} (h : p := by exact (n8 rfl tt rfl Tryz.isAgg3 hk rfl)) : p := h
theorem b7 {p : Prop} (h : p := by exact (a0h rfl tt (by conv => lhs; whnf))) : p := h
theorem M7 {p : Prop} (h : p := by exact (N6 rfl tt rfl Tryz.isAgg9 rfl)) : p := h
theorem Z6 {p : Prop} (h : p := by exact (N6 rfl tt rfl Tryz.isAgg3 rfl)) : p := h
theorem a7g {p : Prop} (h : p := by exact (k7 rfl (a3U rfl tt rfl rfl))) : p := h
theorem a2s {p : Prop} (h : p := by first | exact Z3 _ _ | rfl) : p := h
theorem a6Z {p : Prop} (h : p := by first | omega | (simp; omega)) : p := h
theorem j9 {p : Prop} (h : p := by exact (a1d rfl tt rfl rfl rfl rfl)) : p := h
theorem a0G {p : Prop} (h : p := by exact (k7 rfl (b4Y rfl tt rfl))) : p := h
theorem a5H {p : Prop} (h : p := by exact (l2 ⟨.val _, .val _, tt⟩)) : p := h
theorem r9 {p : Prop} (h : p := by exact (a1d rfl tt tt rfl rfl rfl)) : p := h
theorem V2 {p : Prop} (h : p := by exact (l2 ⟨z7 _ _ _, tt⟩)) : p := h
theorem v7 {p : Prop} (h : p := by exact (a3U rfl tt rfl rfl)) : p := h
theorem a6X {p : Prop} (h : p := by first | omega | simp) : p := h
theorem c6 {p : Prop} (h : p := by conv => lhs; whnf) : p := h
theorem R8 {p : Prop} (h : p := by dsimp only; omega) : p := h
theorem a0u {p : Prop} (h : p := by cases ph <;> rfl) : p := h
theorem A5 {p : Prop} (h : p := by exact (fun _ _ => nb rfl)) : p := h
theorem o6 {p : Prop} (h : p := by exact (b4Y rfl tt rfl)) : p := h
theorem A6 {p : Prop} (h : p := by exact (N3 _ _ _ _)) : p := h
theorem F6 {p : Prop} (h : p := by exact (a7b rfl tt rfl)) : p := h
theorem a39 {p : Prop} (h : p := by exact (a10 (nb rfl))) : p := h
theorem a33 {p : Prop} (h : p := by simpa using h) : p := h
theorem j2 {p : Prop} (h : p := by exact (.inr ⟨_, rfl⟩)) : p := h
theorem j6 {p : Prop} (h : p := by kernel_rfl) : p := h
theorem s8 {p : Prop} (h : p := by exact (a27 _ _)) : p := h
theorem a0b {p : Prop} (h : p := by exact (a7J _ _)) : p := h
theorem Z8 {p : Prop} (h : p := by exact (a78 _ _)) : p := h
theorem j4 {p : Prop} (h : p := by decide) : p := h
theorem b8 {p : Prop} (h : p := by omega) : p := h
theorem l7 {p : Prop} (h : p := by simp) : p := h
end Go
