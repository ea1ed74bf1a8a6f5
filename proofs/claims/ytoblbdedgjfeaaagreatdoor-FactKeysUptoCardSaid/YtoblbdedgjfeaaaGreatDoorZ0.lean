/- Names for closed terms that are often repeated. -/
import Derived.WalkKit
namespace Go
theorem nb {a b : Nat} (h : Nat.ble a b = true) : a ≤ b := Nat.le_of_ble_eq_true h
theorem tt : True := True.intro
theorem q_0 {p : Prop} (h : p := by first | exact .ptr rfl | exact .map rfl | exact .vec rfl | exact .same (congrArg (fun z : Int => CV.val (.int .i64 z)) (by show _ = ((T1 s i1 : Nat) : Int); omega)) (by first | exact .val _ | exact .ptr (nb rfl) | exact .map (nb rfl) | exact (by first | exact I3 _ _ | exact t6 _ _ _ | exact H7 _ _ _ | exact m4 _ _ _ | exact P8 _ _ _)) | exact z7.grow (f := Tok.cv) (fun _ => ⟨.val _, .val _, .val _, .val _, tt⟩) rfl) : p := h
theorem q_1 {p : Prop} (h : p := by first | exact .ptr rfl | exact .map rfl | exact .vec rfl | exact .same rfl (by first | exact .val _ | exact .ptr (nb rfl) | exact .map (nb rfl) | exact (by first | exact I3 _ _ | exact t6 _ _ _ | exact H7 _ _ _ | exact m4 _ _ _ | exact P8 _ _ _)) | exact z7.grow (f := Tok.cv) (fun _ => ⟨.val _, .val _, .val _, .val _, tt⟩) rfl) : p := h
theorem q_2 {p : Prop} (h : p := by first | exact .ptr rfl | exact .map rfl | exact .vec rfl | exact .same rfl (by first | exact .val _ | exact .ptr (nb rfl) | exact .map (nb rfl) | exact C6 _ _ _) | exact (by first | exact .same rfl (show Old _ (CV.list [] false none) from C6 _ ([] : List Ky) false) | (rw [a7B hne]; exact .vec rfl))) : p := h
theorem q_3 {p : Prop} (h : p := by first | exact .ptr rfl | exact .map rfl | exact .vec rfl | exact .same rfl (by first | exact .val _ | exact .ptr (nb rfl) | exact .map (nb rfl) | exact (by first | exact C6 _ _ _ | exact t6 _ _ _ | exact K5 _ _)) | exact z7.grow (f := Ky.cv) (fun _ => ⟨.val _, .val _, .val _, tt⟩) rfl) : p := h
theorem q_4 {p : Prop} (h : p := by exact (a2B rfl (by first | exact a1A (by intro a; rfl) _ | (intro r hr; simp at hr; done) | (intro r hr; simp at hr; subst hr; rfl) | (intro r hr; exact a1A (by intro a; rfl) _ r (List.mem_of_mem_take (List.mem_of_mem_drop hr))) | (intro r hr; simp at hr; obtain ⟨a, _, rfl⟩ := hr; rfl)))) : p := h
theorem q_5 {p : Prop} (h : p := by first | exact .ptr rfl | exact .map rfl | exact .vec rfl | exact .same rfl (by first | exact .val _ | exact .ptr (nb rfl) | exact .map (nb rfl) | exact C6 _ _ _ | exact t6 _ _ _ | exact K5 _ _) | exact (M3 (f := Ky.cv) (fun _ => ⟨.val _, .val _, .val _, tt⟩) _)) : p := h
theorem q_6 {p : Prop} (h : p := by first | exact .ptr rfl | exact .map rfl | exact .vec rfl | exact .same rfl (by first | exact .val _ | exact .ptr (nb rfl) | exact .map (nb rfl) | exact G6 _ _ _ | exact a72 _ [] _ | exact m4 _ _ _) | exact z7.grow (f := Sn.cv) (fun _ => ⟨.val _, .val _, tt⟩) rfl) : p := h
theorem q_7 {p : Prop} (h : p := by first | exact .ptr rfl | exact .map rfl | exact .vec rfl | exact .same rfl (by first | exact .val _ | exact .ptr (nb rfl) | exact .map (nb rfl) | exact m4 _ _ _ | exact C6 _ _ _) | exact z7.grow (f := scv) (fun _ => ⟨.val _, tt⟩) rfl) : p := h
theorem q_8 {p : Prop} (h : p := by first | exact .ptr rfl | exact .map rfl | exact .vec rfl | exact .same rfl (by first | exact .val _ | exact .ptr (nb rfl) | exact .map (nb rfl) | exact G4 _ _ _ | exact G6 _ _ _) | exact z7.grow (f := scv) (fun _ => ⟨.val _, tt⟩) rfl) : p := h
theorem q_9 {p : Prop} (h : p := by first | exact .ptr rfl | exact .map rfl | exact .vec rfl | exact .same rfl (by first | exact .val _ | exact .ptr (nb rfl) | exact .map (nb rfl) | exact m4 _ _ _ | exact C6 _ _ _) | exact .same rfl (m4 _ ([] : List Str) _)) : p := h
theorem a0Z {p : Prop} (h : p := by first | exact .ptr rfl | exact .map rfl | exact .vec rfl | exact .same rfl (by first | exact .val _ | exact .ptr (nb rfl) | exact .map (nb rfl) | exact G4 _ _ _) | exact z7.grow (f := Fi.cv) (fun a => ⟨.val _, .val _, tt⟩) rfl) : p := h
theorem b2K {p : Prop} (h : p := by first | exact .ptr rfl | exact .map rfl | exact .vec rfl | exact .same rfl (by first | exact .val _ | exact .ptr (nb rfl) | exact .map (nb rfl) | exact t6 _ _ _) | exact z7.grow (f := icv) (fun _ => ⟨.val _, tt⟩) rfl) : p := h
theorem b7g {p : Prop} (h : p := by first | exact .ptr rfl | exact .map rfl | exact .vec rfl | exact .same rfl (by first | exact .val _ | exact .ptr (nb rfl) | exact .map (nb rfl) | exact m4 _ _ _) | exact z7.grow (f := scv) (fun _ => ⟨.val _, tt⟩) rfl) : p := h
theorem a1Y {p : Prop} (h : p := by first | exact a1A (by intro a; rfl) _ | assumption | (intro r hr; exact a1A (by intro a; rfl) _ r (List.mem_of_mem_take (List.mem_of_mem_drop hr))) | (intro r hr; simp at hr; obtain ⟨a, _, rfl⟩ := hr; rfl)) : p := h
theorem b7c {p : Prop} (h : p := by first | exact .val _ | exact .ptr (nb rfl) | exact .map (nb rfl) | exact (by first | exact I3 _ _ | exact t6 _ _ _ | exact H7 _ _ _ | exact m4 _ _ _ | exact P8 _ _ _)) : p := h
theorem P9 {p : Prop} (h : p := by first | exact .ptr rfl | exact .map rfl | exact .vec rfl | exact .same rfl (by first | exact .val _ | exact .ptr (nb rfl) | exact .map (nb rfl) | exact m4 _ _ _ | exact t6 _ _ _)) : p := h
theorem a1V {p : Prop} (h : p := by first | exact .ptr rfl | exact .map rfl | exact .vec rfl | exact .same rfl (by first | exact .val _ | exact .ptr (nb rfl) | exact .map (nb rfl) | exact G6 _ _ _ | exact m4 _ _ _)) : p := h
theorem b88 {p : Prop} (h : p := by exact (fun hg => o9 rfl hg hg rfl rfl Tryz.runUnderlying36 Tryz.sizeOf39 (by first | omega | (simp at hg; omega)) (l6 (f := Ky.cv) (show ([] : List Ky)[_]? = some k by simp at hg)) rfl)) : p := h
theorem b91 {p : Prop} (h : p := by exact (o9 rfl tt tt rfl rfl Tryz.runUnderlying22 Tryz.sizeOf3 (by omega) (l6 (by rw [show (((m + 1 : Nat) : Int) - 1).toNat = m by omega, hnd.args]; exact Q3 hc)) rfl)) : p := h
theorem Z1 {p : Prop} (h : p := by first | exact .ptr rfl | exact .map rfl | exact .vec rfl | exact .same rfl (by first | exact .val _ | exact .ptr (nb rfl) | exact .map (nb rfl) | exact m4 _ _ _)) : p := h
theorem b9j {p : Prop} (h : p := by rw [hh, hr]; exact ⟨(), .ret (.old (.tup fun i c hi => by rcases i with _ | _ | i <;> first | (injection hi with hi; subst hi; exact .val _) | cases hi)), tt⟩) : p := h
theorem b9s {p : Prop} (h : p := by exact (v6 #[(0, 1), (1, 1), (2, 1), (3, 1), (4, 1)] rfl ⟨rfl, tt, tt, tt⟩ Tryz.runUnderlying208 Tryz.zeroValue208 rfl ⟨_, rfl⟩ (fun w => by kernel_rfl) rfl rfl)) : p := h
theorem b9l {p : Prop} (h : p := by exact (fun hg => N3 rfl hg hg rfl rfl Tryz.runUnderlying36 Tryz.sizeOf39 rfl (by first | omega | (simp at hg; omega)) (by first | omega | (simp at hg; omega)))) : p := h
theorem a1m {p : Prop} (h : p := by first | omega | (simp only [D3, List.length_cons, List.length_nil] at hb ⊢; omega) | (simp only [D3, List.length_cons, List.length_nil]; omega)) : p := h
theorem b9V {p : Prop} (h : p := by exact (fun hg => o9 rfl hg hg rfl rfl Tryz.runUnderlying30 Tryz.sizeOf57 (by first | omega | (simp at hg; omega)) (l6 (hp (by simp at hg; omega)).1) rfl)) : p := h
theorem a7p {p : Prop} (h : p := by exact (v6 #[(0, 1), (1, 1), (2, 1), (3, 1), (4, 1)] rfl ⟨rfl, tt, tt⟩ Tryz.runUnderlying208 Tryz.zeroValue208 rfl ⟨_, rfl⟩ (fun w => by kernel_rfl) rfl rfl)) : p := h
theorem a5x {p : Prop} (h : p := by first | exact .val _ | exact .ptr (nb rfl) | exact .map (nb rfl) | exact (by first | exact C6 _ _ _ | exact t6 _ _ _ | exact K5 _ _)) : p := h
theorem b9h {p : Prop} (h : p := by exact (a0I (vc := vcE) (l := me) (a := (N6 x.k x.p x.o)) b7C rfl tt tt rfl rfl Tryz.runUnderlying103 Tryz.zeroValue62 rfl rfl (a1C En.z rfl _))) : p := h
theorem b9C {p : Prop} (h : p := by exact (fun hg => U9 rfl hg rfl rfl rfl Tryz.runUnderlying9 (by first | omega | (simp at hg; omega)) (b := s.headD 0) (b5I (by simp at hg; omega)))) : p := h
theorem b9d {p : Prop} (h : p := by exact (fun hg => U9 rfl hg hg rfl rfl Tryz.runUnderlying9 (by first | omega | (simp at hg; omega)) (b := s[e]?.getD 0) (a94 (by simp at hg; omega)))) : p := h
theorem b89 {p : Prop} (h : p := by exact (m7 rfl (H5 (vc := sv) (l := S0) (a := o) P5 rfl tt tt rfl rfl Tryz.runUnderlying193 Tryz.zeroValue9 rfl rfl (a1C ([] : Str) rfl _)))) : p := h
theorem a0q {p : Prop} (h : p := by first | exact .ptr rfl | exact .map rfl | exact .vec rfl | exact .same rfl (by first | exact .val _ | exact .ptr (nb rfl) | exact .map (nb rfl))) : p := h
theorem b2D {p : Prop} (h : p := by exact (v6 #[(0, 1), (1, 1), (2, 1), (3, 1)] rfl ⟨rfl, tt, tt⟩ Tryz.runUnderlying227 Tryz.zeroValue227 rfl ⟨_, rfl⟩ (fun w => by kernel_rfl) rfl rfl)) : p := h
theorem b9q {p : Prop} (h : p := by exact (a0I (vc := vcE) (l := me) (a := (N6 k p o)) b7C rfl tt tt rfl rfl Tryz.runUnderlying103 Tryz.zeroValue62 rfl rfl (a1C En.z rfl _))) : p := h
theorem b98 {p : Prop} (h : p := by exact (v6 #[(0, 1), (1, 1), (2, 1)] rfl ⟨tt, tt, tt, tt⟩ Tryz.runUnderlying164 Tryz.zeroValue164 rfl ⟨_, rfl⟩ (fun w => by kernel_rfl) rfl rfl)) : p := h
theorem b9Y {p : Prop} (h : p := by exact (v6 #[(0, 1), (1, 1), (2, 1)] rfl ⟨rfl, rfl, tt⟩ Tryz.runUnderlying39 Tryz.zeroValue39 rfl ⟨_, rfl⟩ (fun w => by kernel_rfl) rfl rfl)) : p := h
theorem b9z {p : Prop} (h : p := by exact (m7 rfl (v6 #[(0, 1), (1, 1), (2, 1)] rfl tt Tryz.runUnderlying69 Tryz.zeroValue69 rfl ⟨_, rfl⟩ (fun w => by kernel_rfl) rfl rfl))) : p := h
theorem b87 {p : Prop} (h : p := by exact (a0I (vc := vcS) (l := ms) (a := y.p) a8z rfl tt tt rfl rfl Tryz.runUnderlying102 Tryz.zeroValue69 rfl rfl (a1C Src.z rfl _))) : p := h
theorem b6z {p : Prop} (h : p := by exact (v6 #[(0, 1), (1, 1), (2, 1), (3, 1)] rfl tt Tryz.runUnderlying227 Tryz.zeroValue227 rfl ⟨_, rfl⟩ (fun w => by kernel_rfl) rfl rfl)) : p := h
theorem b9D {p : Prop} (h : p := by exact (H5 (vc := kv) (l := m) (a := (b.toNat : Int)) b7t rfl tt tt rfl rfl Tryz.runUnderlying155 Tryz.zeroValue3 rfl rfl (a7v _ _))) : p := h
theorem b6t {p : Prop} (h : p := by first | exact .val _ | exact .ptr (nb rfl) | exact .map (nb rfl) | exact C6 _ _ _ | exact t6 _ _ _ | exact K5 _ _) : p := h
theorem b9g {p : Prop} (h : p := by exact .ret (.tups ⟨.old (c := .agg ((⟨[], [], []⟩ : Src)).cells) (d6 (Src.pure _)).old, .old (.val _), .old (.val _), tt⟩)) : p := h
theorem b9t {p : Prop} (h : p := by exact (v6 #[(0, 1), (1, 1)] rfl ⟨rfl, rfl, tt⟩ Tryz.runUnderlying57 Tryz.zeroValue57 rfl ⟨_, rfl⟩ (fun w => by kernel_rfl) rfl rfl)) : p := h
theorem b9N {p : Prop} (h : p := by exact (fun hg => a0l rfl hg rfl Tryz.isAgg39 Tryz.sizeOf39 rfl (b0V (l6 (hb (by simp at hg; omega))) (by omega)) (nb rfl))) : p := h
theorem b9b {p : Prop} (h : p := by exact (v6 #[(0, 1), (1, 1), (2, 1)] rfl tt Tryz.runUnderlying39 Tryz.zeroValue39 rfl ⟨_, rfl⟩ (fun w => by kernel_rfl) rfl rfl)) : p := h
theorem b9p {p : Prop} (h : p := by exact (o9 rfl tt tt rfl rfl Tryz.runUnderlying115 Tryz.sizeOf208 (by omega) (l6 (by rw [hmi, hbody]; exact hdp2.he)) rfl)) : p := h
theorem b86 {p : Prop} (h : p := by exact .inl ⟨n + 1, Q5 rfl (.tup fun i c h => by simp at h), by rw [pIs, if_pos hb], hW n hn (a7r hb (by decide))⟩) : p := h
theorem b6F {p : Prop} (h : p := by first | exact I3 _ _ | exact t6 _ _ _ | exact H7 _ _ _ | exact m4 _ _ _ | exact P8 _ _ _) : p := h
theorem b9R {p : Prop} (h : p := by first | exact I3 _ _ | exact b5j _ _ _ | exact t6 _ _ _ | exact m4 _ _ _ | exact P8 _ _ _) : p := h
theorem b9F {p : Prop} (h : p := by exact (y7 [Ky.cv zK] rfl ⟨tt, tt⟩ Tryz.runUnderlying36 Tryz.sizeOf39 Tryz.zeroValue39 rfl rfl rfl rfl rfl rfl rfl rfl rfl)) : p := h
theorem b95 {p : Prop} (h : p := by exact (fun hg => o5 rfl hg rfl Tryz.isAgg9 (by first | exact b1e _ _ | exact T6 hq _ | exact T6 hs _) rfl)) : p := h
theorem b8b {p : Prop} (h : p := by exact (fun hg => a3K rfl hg rfl rfl rfl (by first | omega | (simp at hg; omega)) (by first | omega | (simp at hg; omega)))) : p := h
theorem b9E {p : Prop} (h : p := by rw [eT]; simp only [← List.append_assoc b]; exact a57 (k := 6) rfl rfl (by decide) (x7 _ _ _ _ _) Z6) : p := h
theorem b9v {p : Prop} (h : p := by rw [eT]; simp only [← List.append_assoc b]; exact a57 (k := 5) rfl rfl (by decide) (x7 _ _ _ _ _) Z6) : p := h
theorem b5F {p : Prop} (h : p := by exact .inl ⟨(i, m, b2), M6 rfl rfl (nb rfl) (.val _), by rw [hsp]; exact g1, by dsimp only; omega, g3, g4⟩) : p := h
theorem b9n {p : Prop} (h : p := by exact (m7 rfl (I4 rfl tt rfl rfl rfl (by show ([32] ++ sgn o : Str).length + 1 ≤ _; rw [D3]; simp; omega)))) : p := h
theorem b9x {p : Prop} (h : p := by exact (I4 rfl tt rfl rfl rfl (by first | omega | (simp only [D3, List.length_cons, List.length_nil]; omega)))) : p := h
theorem b8y {p : Prop} (h : p := by exact (v6 #[(0, 1)] rfl tt Tryz.runUnderlying25 Tryz.zeroValue25 rfl ⟨_, rfl⟩ (fun w => by kernel_rfl) rfl rfl)) : p := h
theorem b90 {p : Prop} (h : p := by exact (o5 rfl tt rfl Tryz.isAgg3 (by first | exact b1e _ _ | exact T6 hq _ | exact T6 hs _) rfl)) : p := h
theorem b8A {p : Prop} (h : p := by exact (o9 rfl tt rfl rfl rfl Tryz.runUnderlying22 Tryz.sizeOf3 (by omega) (l6 (Q3 g0)) rfl)) : p := h
theorem b9B {p : Prop} (h : p := by exact (o9 rfl tt rfl rfl rfl Tryz.runUnderlying22 Tryz.sizeOf3 (by omega) (l6 (Q3 g1)) rfl)) : p := h
theorem b9P {p : Prop} (h : p := by exact .inl ⟨(i6, n + 1, b6), M6 rfl rfl (nb rfl) (.val _), hsp, by dsimp only; omega, hn1, y6⟩) : p := h
theorem b9u {p : Prop} (h : p := by exact (o9 rfl tt tt rfl rfl Tryz.runUnderlying22 Tryz.sizeOf3 (by omega) (l6 (Q3 gm)) rfl)) : p := h
theorem b9Q {p : Prop} (h : p := by exact (fun hg => U9 rfl hg hg rfl rfl Tryz.runUnderlying9 (by first | omega | (simp at hg; omega)) hb)) : p := h
theorem b5r {p : Prop} (h : p := by exact .inl ⟨(i6, n5, b6), M6 rfl rfl (nb rfl) (.val _), hsp, by dsimp only; omega, kn5, y6⟩) : p := h
theorem b3p {p : Prop} (h : p := by first | exact I3 _ _ | exact t6 _ _ _ | exact m4 _ _ _ | exact P8 _ _ _) : p := h
theorem b74 {p : Prop} (h : p := by first | omega | (simp at hk hg; omega) | (change (_ : Bool) = _ at hk; simp at hk hg; omega)) : p := h
theorem b96 {p : Prop} (h : p := by exact (i8 rfl Tryz.call266 ⟨tt, tt⟩ (W2 d.name (by have := B1 hnm.1; omega) _) rfl)) : p := h
theorem a87 {p : Prop} (h : p := by have hb : Tryz.t39.bytes = 40 := rfl; rw [hb]; first | omega | (simp; done) | (simp; omega)) : p := h
theorem b3q {p : Prop} (h : p := by have hb : Tryz.t9.bytes = 16 := rfl; rw [hb]; first | omega | (simp; done) | (simp; omega)) : p := h
theorem b75 {p : Prop} (h : p := by exact (i8 rfl Tryz.call191 ⟨tt, tt⟩ (a1t hT hn ⟨rfl, rfl, Nat.ne_of_beq_eq_false rfl⟩) rfl)) : p := h
theorem a69 {p : Prop} (h : p := by exact (I4 rfl tt rfl rfl rfl (by simp only [D3, List.length_cons, List.length_nil]; omega))) : p := h
theorem a85 {p : Prop} (h : p := by exact m7 rfl (l9 rfl tt rfl Tryz.runUnderlying301 rfl Tryz.sizeOf240 (by decide))) : p := h
theorem b6f {p : Prop} (h : p := by exact (I4 rfl rfl tt rfl rfl (by simp only [D3, List.length_cons, List.length_nil]; omega))) : p := h
theorem b6E {p : Prop} (h : p := by exact (o9 rfl tt tt rfl rfl Tryz.runUnderlying67 Tryz.sizeOf117 (by omega) (l6 hd) rfl)) : p := h
theorem b8G {p : Prop} (h : p := by exact (P7 rfl tt rfl Tryz.isAgg3 rfl (by rw [hmi]; simpa using l6 (f := icv) hv) rfl)) : p := h
theorem b5Q {p : Prop} (h : p := by exact (o9 rfl tt tt rfl rfl Tryz.runUnderlying30 Tryz.sizeOf57 (by omega) (l6 hb) rfl)) : p := h
theorem a9B {p : Prop} (h : p := by exact (N3 rfl tt tt rfl rfl Tryz.runUnderlying36 Tryz.sizeOf39 rfl (by omega) (by omega))) : p := h
theorem b7D {p : Prop} (h : p := by exact (o9 rfl tt tt rfl rfl Tryz.runUnderlying26 Tryz.sizeOf9 (by omega) (l6 hb) rfl)) : p := h
theorem b84 {p : Prop} (h : p := by exact (i8 rfl Tryz.call97 ⟨tt, tt, tt⟩ (a8u (a0O hσ _) _ (hok.find _ _ _)) rfl)) : p := h
theorem b8c {p : Prop} (h : p := by exact (o9 rfl tt tt rfl rfl Tryz.runUnderlying26 Tryz.sizeOf9 (by omega) (l6 hy) rfl)) : p := h
theorem a4W {p : Prop} (h : p := by exact (N3 rfl tt tt rfl rfl Tryz.runUnderlying22 Tryz.sizeOf3 rfl (by omega) (by omega))) : p := h
theorem b8r {p : Prop} (h : p := by exact (m7 rfl (l9 rfl tt rfl Tryz.runUnderlying301 rfl Tryz.sizeOf240 (by decide)))) : p := h
theorem b8k {p : Prop} (h : p := by exact (m7 rfl (l9 rfl tt rfl Tryz.runUnderlying69 rfl Tryz.sizeOf67 (by decide)))) : p := h
theorem b8l {p : Prop} (h : p := by rw [eT]; exact a57 (k := 3) rfl rfl (by decide) (x7 _ _ _ _ _) Z6) : p := h
theorem b3x {p : Prop} (h : p := by exact m7 rfl (J3 rfl tt rfl Tryz.isAgg227 Tryz.sizeOf227 rfl (nb rfl))) : p := h
theorem a8U {p : Prop} (h : p := by exact (S3 rfl tt rfl Tryz.runUnderlying115 (by first | exact T5 _ _ | rfl) rfl)) : p := h
theorem a9D {p : Prop} (h : p := by exact (fun hg => l9 rfl tt rfl Tryz.runUnderlying208 rfl Tryz.sizeOf3 (by decide))) : p := h
theorem b05 {p : Prop} (h : p := by exact (S3 rfl tt rfl Tryz.runUnderlying139 (by first | exact T5 _ _ | rfl) rfl)) : p := h
theorem b6T {p : Prop} (h : p := by exact (fun hg => l9 rfl tt rfl Tryz.runUnderlying227 rfl Tryz.sizeOf9 (by decide))) : p := h
theorem b7p {p : Prop} (h : p := by exact (fun hg => l9 rfl tt rfl Tryz.runUnderlying208 rfl Tryz.sizeOf9 (by decide))) : p := h
theorem Y4 {p : Prop} (h : p := by exact (S3 rfl tt rfl Tryz.runUnderlying26 (by first | exact T5 _ _ | rfl) rfl)) : p := h
theorem a4J {p : Prop} (h : p := by exact (S3 rfl tt rfl Tryz.runUnderlying36 (by first | exact T5 _ _ | rfl) rfl)) : p := h
theorem a5H {p : Prop} (h : p := by exact (fun hg => l9 rfl tt rfl Tryz.runUnderlying39 rfl Tryz.sizeOf9 (by decide))) : p := h
theorem a7O {p : Prop} (h : p := by exact (S3 rfl tt rfl Tryz.runUnderlying22 (by first | exact T5 _ _ | rfl) rfl)) : p := h
theorem b0y {p : Prop} (h : p := by exact (S3 rfl tt rfl Tryz.runUnderlying30 (by first | exact T5 _ _ | rfl) rfl)) : p := h
theorem b3J {p : Prop} (h : p := by exact (S3 rfl tt rfl Tryz.runUnderlying67 (by first | exact T5 _ _ | rfl) rfl)) : p := h
theorem b6P {p : Prop} (h : p := by exact m7 rfl (J3 rfl tt rfl Tryz.isAgg32 Tryz.sizeOf32 rfl (nb rfl))) : p := h
theorem b8T {p : Prop} (h : p := by exact (S3 rfl tt rfl Tryz.runUnderlying23 (by first | exact T5 _ _ | rfl) rfl)) : p := h
theorem b3T {p : Prop} (h : p := by exact (i8 rfl Tryz.call191 ⟨tt, tt⟩ (a1t hT hn ⟨rfl, rfl, by decide⟩) rfl)) : p := h
theorem a8P {p : Prop} (h : p := by first | exact C6 _ _ _ | exact t6 _ _ _ | exact K5 _ _) : p := h
theorem b5Z {p : Prop} (h : p := by simp only [D3, List.length_cons, List.length_nil] at hbm ⊢; omega) : p := h
theorem a0R {p : Prop} (h : p := by exact (l9 rfl tt rfl Tryz.runUnderlying301 rfl Tryz.sizeOf240 (by decide))) : p := h
theorem R7 {p : Prop} (h : p := by exact (l9 rfl tt rfl Tryz.runUnderlying240 rfl Tryz.sizeOf139 (by decide))) : p := h
theorem a2w {p : Prop} (h : p := by exact (l9 rfl tt rfl Tryz.runUnderlying117 rfl Tryz.sizeOf115 (by decide))) : p := h
theorem a6d {p : Prop} (h : p := by exact (l9 rfl tt rfl Tryz.runUnderlying240 rfl Tryz.sizeOf238 (by decide))) : p := h
theorem a6P {p : Prop} (h : p := by exact (l9 rfl tt rfl Tryz.runUnderlying188 rfl Tryz.sizeOf115 (by decide))) : p := h
theorem a6g {p : Prop} (h : p := by exact (l9 rfl tt rfl Tryz.runUnderlying105 rfl Tryz.sizeOf103 (by decide))) : p := h
theorem a8I {p : Prop} (h : p := by exact (l9 rfl tt rfl Tryz.runUnderlying105 rfl Tryz.sizeOf102 (by decide))) : p := h
theorem a0V {p : Prop} (h : p := by exact (l9 rfl tt rfl Tryz.runUnderlying208 rfl Tryz.sizeOf22 (by decide))) : p := h
theorem a3z {p : Prop} (h : p := by exact (l9 rfl tt rfl Tryz.runUnderlying117 rfl Tryz.sizeOf26 (by decide))) : p := h
theorem b3W {p : Prop} (h : p := by exact (l9 rfl tt rfl Tryz.runUnderlying184 rfl Tryz.sizeOf40 (by decide))) : p := h
theorem L7 {p : Prop} (h : p := by exact (l9 rfl tt rfl Tryz.runUnderlying188 rfl Tryz.sizeOf3 (by decide))) : p := h
theorem T0 {p : Prop} (h : p := by exact (l9 rfl tt rfl Tryz.runUnderlying227 rfl Tryz.sizeOf9 (by decide))) : p := h
theorem X5 {p : Prop} (h : p := by exact (l9 rfl tt rfl Tryz.runUnderlying208 rfl Tryz.sizeOf3 (by decide))) : p := h
theorem a02 {p : Prop} (h : p := by exact (l9 rfl tt rfl Tryz.runUnderlying227 rfl Tryz.sizeOf3 (by decide))) : p := h
theorem a4y {p : Prop} (h : p := by exact (l9 rfl tt rfl Tryz.runUnderlying69 rfl Tryz.sizeOf67 (by decide))) : p := h
theorem a3y {p : Prop} (h : p := by exact (l9 rfl tt rfl Tryz.runUnderlying117 rfl Tryz.sizeOf9 (by decide))) : p := h
theorem a4Z {p : Prop} (h : p := by exact (l9 rfl tt rfl Tryz.runUnderlying69 rfl Tryz.sizeOf26 (by decide))) : p := h
theorem a6w {p : Prop} (h : p := by exact (l9 rfl tt rfl Tryz.runUnderlying117 rfl Tryz.sizeOf3 (by decide))) : p := h
theorem a9U {p : Prop} (h : p := by exact (l9 rfl tt rfl Tryz.runUnderlying32 rfl Tryz.sizeOf30 (by decide))) : p := h
theorem a9v {p : Prop} (h : p := by exact (l9 rfl tt rfl Tryz.runUnderlying301 rfl Tryz.sizeOf3 (by decide))) : p := h
theorem b1w {p : Prop} (h : p := by exact (l9 rfl tt rfl Tryz.runUnderlying208 rfl Tryz.sizeOf9 (by decide))) : p := h
theorem b55 {p : Prop} (h : p := by exact (l9 rfl tt rfl Tryz.runUnderlying25 rfl Tryz.sizeOf23 (by decide))) : p := h
theorem b5V {p : Prop} (h : p := by exact (l9 rfl tt rfl Tryz.runUnderlying105 rfl Tryz.sizeOf4 (by decide))) : p := h
theorem A8 {p : Prop} (h : p := by exact (l9 rfl tt rfl Tryz.runUnderlying39 rfl Tryz.sizeOf9 (by decide))) : p := h
theorem X7 {p : Prop} (h : p := by exact (l9 rfl tt rfl Tryz.runUnderlying57 rfl Tryz.sizeOf9 (by decide))) : p := h
theorem a1x {p : Prop} (h : p := by exact (l9 rfl tt rfl Tryz.runUnderlying39 rfl Tryz.sizeOf3 (by decide))) : p := h
theorem a4Y {p : Prop} (h : p := by exact (l9 rfl tt rfl Tryz.runUnderlying29 rfl Tryz.sizeOf3 (by decide))) : p := h
theorem a8t {p : Prop} (h : p := by exact (l9 rfl tt rfl Tryz.runUnderlying69 rfl Tryz.sizeOf9 (by decide))) : p := h
theorem a9b {p : Prop} (h : p := by exact (l9 rfl tt rfl Tryz.runUnderlying62 rfl Tryz.sizeOf3 (by decide))) : p := h
theorem b32 {p : Prop} (h : p := by exact (l9 rfl tt rfl Tryz.runUnderlying62 rfl Tryz.sizeOf9 (by decide))) : p := h
theorem b1i {p : Prop} (h : p := by exact (fun hg => J3 rfl tt rfl Tryz.isAgg39 Tryz.sizeOf39 rfl (nb rfl))) : p := h
theorem b1q {p : Prop} (h : p := by exact (i8 rfl Tryz.call67 ⟨tt, tt⟩ (a6C x.a (by omega) _) rfl)) : p := h
theorem b1y {p : Prop} (h : p := by exact (i8 rfl Tryz.call64 ⟨tt, tt⟩ (U2 x.a (by omega) _) rfl)) : p := h
theorem a2o {p : Prop} (h : p := by simp only [D3, List.length_cons, List.length_nil]; omega) : p := h
theorem b14 {p : Prop} (h : p := by exact (a1E rfl tt rfl Tryz.runUnderlying227 rfl Tryz.isAgg9 rfl)) : p := h
theorem a9o {p : Prop} (h : p := by exact (l2 ⟨.val _, .val _, .val _, .val _, t6 _ _ _, tt⟩)) : p := h
theorem a8s {p : Prop} (h : p := by cases ph <;> exact ⟨rfl, rfl, Nat.ne_of_beq_eq_false rfl⟩) : p := h
theorem a9z {p : Prop} (h : p := by exact (U9 rfl tt tt rfl rfl Tryz.runUnderlying9 (by omega) hb)) : p := h
theorem b1O {p : Prop} (h : p := by exact m7 rfl (o5 rfl tt rfl Tryz.isAgg40 rfl rfl)) : p := h
theorem b4S {p : Prop} (h : p := by exact (i8 rfl Tryz.call91 ⟨tt, tt⟩ (b1a fl nn hl _) rfl)) : p := h
theorem B0 {p : Prop} (h : p := by exact (J3 rfl tt rfl Tryz.isAgg227 Tryz.sizeOf227 rfl (nb rfl))) : p := h
theorem a14 {p : Prop} (h : p := by exact (J3 rfl tt rfl Tryz.isAgg208 Tryz.sizeOf208 rfl (nb rfl))) : p := h
theorem a6n {p : Prop} (h : p := by exact (J3 rfl tt rfl Tryz.isAgg164 Tryz.sizeOf164 rfl (nb rfl))) : p := h
theorem a5V {p : Prop} (h : p := by exact m7 rfl (o5 rfl tt rfl Tryz.isAgg3 rfl rfl)) : p := h
theorem b6b {p : Prop} (h : p := by exact (J3 rfl tt rfl Tryz.isAgg297 Tryz.sizeOf297 rfl (nb rfl))) : p := h
theorem b1f {p : Prop} (h : p := by first | exact a1A (by intro a; rfl) _ | assumption) : p := h
theorem E5 {p : Prop} (h : p := by exact (J3 rfl tt rfl Tryz.isAgg39 Tryz.sizeOf39 rfl (nb rfl))) : p := h
theorem H8 {p : Prop} (h : p := by exact m7 rfl (a0B rfl tt (by conv => lhs; whnf))) : p := h
theorem a3F {p : Prop} (h : p := by exact (J3 rfl tt rfl Tryz.isAgg32 Tryz.sizeOf32 rfl (nb rfl))) : p := h
theorem a5Z {p : Prop} (h : p := by exact (J1 rfl tt rfl Tryz.isAgg117 Tryz.sizeOf117 (nb rfl))) : p := h
theorem a6a {p : Prop} (h : p := by exact (J3 rfl tt rfl Tryz.isAgg69 Tryz.sizeOf69 rfl (nb rfl))) : p := h
theorem b1P {p : Prop} (h : p := by exact (J3 rfl tt rfl Tryz.isAgg62 Tryz.sizeOf62 rfl (nb rfl))) : p := h
theorem b5A {p : Prop} (h : p := by exact (J1 rfl tt rfl Tryz.isAgg208 Tryz.sizeOf208 (nb rfl))) : p := h
theorem b52 {p : Prop} (h : p := by exact (J3 rfl tt rfl Tryz.isAgg25 Tryz.sizeOf25 rfl (nb rfl))) : p := h
theorem a6I {p : Prop} (h : p := by exact (J1 rfl tt rfl Tryz.isAgg57 Tryz.sizeOf57 (nb rfl))) : p := h
theorem a6x {p : Prop} (h : p := by exact (J1 rfl tt rfl Tryz.isAgg39 Tryz.sizeOf39 (nb rfl))) : p := h
theorem b1J {p : Prop} (h : p := by exact (l2 ⟨.val _, m4 _ [] _, G6 _ [] _, tt⟩)) : p := h
theorem p9 {p : Prop} (h : p := by exact (a2j rfl tt rfl (fun hp => hp) (fun _ => rfl))) : p := h
theorem a9h {p : Prop} (h : p := by first | exact m4 _ _ _ | exact K5 _ _) : p := h
theorem J0 {p : Prop} (h : p := by exact (b3o rfl tt rfl (fun hp => hp) (fun _ => rfl))) : p := h
theorem a10 {p : Prop} (h : p := by exact (fun hg => Y3 rfl hg rfl rfl rfl (a2K _ _))) : p := h
theorem a2p {p : Prop} (h : p := by exact (m7 rfl (a4i rfl tt (by conv => lhs; whnf)))) : p := h
theorem a9c {p : Prop} (h : p := by exact (m7 rfl (o5 rfl tt rfl Tryz.isAgg3 rfl rfl))) : p := h
theorem a3s {p : Prop} (h : p := by exact (fun hg => Y3 rfl hg hg rfl rfl (a2K _ _))) : p := h
theorem a84 {p : Prop} (h : p := by exact (a3p rfl tt rfl Tryz.runUnderlying36 rfl rfl)) : p := h
theorem J4 {p : Prop} (h : p := by exact (m7 rfl (a0B rfl tt (by conv => lhs; whnf)))) : p := h
theorem N5 {p : Prop} (h : p := by exact (fun hg => o5 rfl hg rfl Tryz.isAgg9 rfl rfl)) : p := h
theorem a2G {p : Prop} (h : p := by exact (fun hg => o5 rfl hg rfl Tryz.isAgg3 rfl rfl)) : p := h
theorem b2a {p : Prop} (h : p := by rw [List.length_map, List.length_take]; omega) : p := h
theorem a0U {p : Prop} (h : p := by first | omega | (simp; done) | (simp; omega)) : p := h
theorem a2L {p : Prop} (h : p := by exact (fun hg => b34 rfl hg rfl Tryz.runUnderlying9)) : p := h
theorem n9 {p : Prop} (h : p := by exact (b5s rfl tt rfl rfl rfl (by omega) (by omega))) : p := h
theorem o6 {p : Prop} (h : p := by exact (fun hg => a0B rfl tt (by conv => lhs; whnf))) : p := h
theorem T4 {p : Prop} (h : p := by exact (a3K rfl tt rfl rfl rfl (by omega) (by omega))) : p := h
theorem a2z {p : Prop} (h : p := by exact (b5s rfl tt tt rfl rfl (by omega) (by omega))) : p := h
theorem a2r {p : Prop} (h : p := by exact m7 rfl (a23 rfl tt rfl rfl)) : p := h
theorem a6z {p : Prop} (h : p := by exact (a7K (by decide) (by decide) (by decide))) : p := h
theorem b1n {p : Prop} (h : p := by rw [es]; simp only [List.append_assoc]) : p := h
theorem I7 {p : Prop} (h : p := by exact (Y3 rfl tt rfl rfl rfl (a2K _ _))) : p := h
theorem W9 {p : Prop} (h : p := by exact (o5 rfl tt rfl Tryz.isAgg115 rfl rfl)) : p := h
theorem a0f {p : Prop} (h : p := by exact (o5 rfl tt rfl Tryz.isAgg139 rfl rfl)) : p := h
theorem a54 {p : Prop} (h : p := by exact (o5 rfl tt rfl Tryz.isAgg103 rfl rfl)) : p := h
theorem a9M {p : Prop} (h : p := by exact (o5 rfl tt rfl Tryz.isAgg238 rfl rfl)) : p := h
theorem a9u {p : Prop} (h : p := by exact (o5 rfl tt rfl Tryz.isAgg102 rfl rfl)) : p := h
theorem i7 {p : Prop} (h : p := by exact (a4i rfl rfl (by conv => lhs; whnf))) : p := h
theorem L1 {p : Prop} (h : p := by first | omega | (simp; omega) | simp) : p := h
theorem T2 {p : Prop} (h : p := by exact (o5 rfl tt rfl Tryz.isAgg26 rfl rfl)) : p := h
theorem a1o {p : Prop} (h : p := by exact (o5 rfl tt rfl Tryz.isAgg22 rfl rfl)) : p := h
theorem a2F {p : Prop} (h : p := by exact (o5 rfl tt rfl Tryz.isAgg67 rfl rfl)) : p := h
theorem a8Q {p : Prop} (h : p := by exact (o5 rfl tt rfl Tryz.isAgg30 rfl rfl)) : p := h
theorem b1H {p : Prop} (h : p := by exact (Y3 rfl tt tt rfl rfl (a2K _ _))) : p := h
theorem c7 {p : Prop} (h : p := by exact (a4i rfl tt (by conv => lhs; whnf))) : p := h
theorem p7 {p : Prop} (h : p := by exact (o5 rfl tt rfl Tryz.isAgg9 rfl rfl)) : p := h
theorem t7 {p : Prop} (h : p := by exact (o5 rfl tt rfl Tryz.isAgg3 rfl rfl)) : p := h
theorem A6 {p : Prop} (h : p := by exact (fun hg => a1u rfl hg rfl rfl rfl rfl)) : p := h
theorem a8F {p : Prop} (h : p := by first | omega | (simp at hg; omega)) : p := h
theorem z8 {p : Prop} (h : p := by exact (a0B rfl rfl (by conv => lhs; whnf))) : p := h
theorem E4 {p : Prop} (h : p := by exact (b34 rfl tt rfl Tryz.runUnderlying9)) : p := h
theorem W7 {p : Prop} (h : p := by exact m7 rfl (b3Q rfl tt rfl)) : p := h
theorem a4C {p : Prop} (h : p := by exact (fun hg => a1u rfl hg hg rfl rfl rfl)) : p := h
theorem a79 {p : Prop} (h : p := by exact (o5 rfl tt rfl Tryz.isAgg3 hk rfl)) : p := h
theorem b7 {p : Prop} (h : p := by exact (a0B rfl tt (by conv => lhs; whnf))) : p := h
theorem R4 {p : Prop} (h : p := by exact (K7 rfl tt rfl Tryz.isAgg9 rfl)) : p := h
theorem W4 {p : Prop} (h : p := by exact (K7 rfl tt rfl Tryz.isAgg3 rfl)) : p := h
theorem a6s {p : Prop} (h : p := by exact (m7 rfl (a23 rfl tt rfl rfl))) : p := h
theorem a2q {p : Prop} (h : p := by first | exact T5 _ _ | rfl) : p := h
theorem a58 {p : Prop} (h : p := by first | omega | (simp; omega)) : p := h
theorem a6b {p : Prop} (h : p := by show [].length ≤ 8; decide) : p := h
theorem k7 {p : Prop} (h : p := by exact (a1u rfl tt rfl rfl rfl rfl)) : p := h
theorem a0i {p : Prop} (h : p := by exact (m7 rfl (b3Q rfl tt rfl))) : p := h
theorem p8 {p : Prop} (h : p := by exact (a1u rfl tt tt rfl rfl rfl)) : p := h
theorem a3N {p : Prop} (h : p := by exact (l2 ⟨G4 _ _ _, tt⟩)) : p := h
theorem A0 {p : Prop} (h : p := by exact (a23 rfl tt rfl rfl)) : p := h
theorem c6 {p : Prop} (h : p := by conv => lhs; whnf) : p := h
theorem a1k {p : Prop} (h : p := by dsimp only; omega) : p := h
theorem a0p {p : Prop} (h : p := by cases ph <;> rfl) : p := h
theorem y9 {p : Prop} (h : p := by exact (fun _ _ => nb rfl)) : p := h
theorem o7 {p : Prop} (h : p := by exact (b3Q rfl tt rfl)) : p := h
theorem F1 {p : Prop} (h : p := by exact (a5U rfl tt rfl)) : p := h
theorem a16 {p : Prop} (h : p := by simpa using h) : p := h
theorem a3w {p : Prop} (h : p := by exact (a1L (nb rfl))) : p := h
theorem Z4 {p : Prop} (h : p := by simp; omega) : p := h
theorem j3 {p : Prop} (h : p := by exact (.inr ⟨_, rfl⟩)) : p := h
theorem j6 {p : Prop} (h : p := by kernel_rfl) : p := h
theorem s7 {p : Prop} (h : p := by exact (a2R _ _)) : p := h
theorem X8 {p : Prop} (h : p := by exact (a7w _ _)) : p := h
theorem X2 {p : Prop} (h : p := by exact (a64 _ _)) : p := h
theorem j5 {p : Prop} (h : p := by decide) : p := h
theorem c4 {p : Prop} (h : p := by omega) : p := h
theorem m5 {p : Prop} (h : p := by simp) : p := h
end Go
