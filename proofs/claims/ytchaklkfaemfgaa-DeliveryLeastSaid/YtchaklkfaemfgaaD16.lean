import Derived.Test.YtchaklkfaemfgaaD15
import Derived.Test.YtchaklkfaemfgaaT1
namespace Go.Proofs.Ytchaklkfaemfgaa
open Go Go.Cl

/-- The first reports that are posted. -/
def pst (i : Nat) : Bx := ⟨(List.range i).map fun j : Nat => repS ((j : Int) * 7), decide (0 < i)⟩
theorem fold_id {v n : Int} (h0 : 0 ≤ v) (h1 : v < n) : fold v n = v := by
  unfold fold
  split
  · omega
  · exact Int.emod_eq_of_lt h0 h1
theorem rep_inj {i j : Nat} (hi : i < 9) (hj : j < 9) (h : repS ((i : Int) * 7) = repS ((j : Int) * 7)) : i = j := by
  have h1 : fold ((i : Int) * 7) 1000 % 128 = fold ((j : Int) * 7) 1000 % 128 := congrArg Rp.t h
  rw [fold_id (v := (i : Int) * 7) (by omega) (by omega), fold_id (v := (j : Int) * 7) (by omega) (by omega)] at h1
  clear h
  omega
theorem pst_wh {i : Nat} (hi : i ≤ 9) : WhP (pst i).pend := by
  refine ⟨by simp [pst]; omega, fun x hx => ?_, ?_⟩
  · obtain ⟨j, _, rfl⟩ := List.mem_map.1 hx
    exact rep_right _
  · rw [List.nodup_iff_pairwise_ne, pst, List.pairwise_map]
    refine List.Pairwise.imp_of_mem (fun {a b} ha hb hne he => ?_) (List.nodup_iff_pairwise_ne.1 List.nodup_range)
    simp at ha hb
    exact hne (rep_inj (by omega) (by omega) he)
theorem pst_nn {i : Nat} (h : (pst i).nn = false) : (pst i).pend = [] := by
  have : i = 0 := by simpa [pst] using h
  subst this; rfl
theorem pst_step {i : Nat} (hi : i < 9) : postS (pb (WhP (pst i).pend)) (pb (RightP (repS ((i : Int) * 7)))) (pst i) (repS ((i : Int) * 7)) = (pst (i + 1), 0) := by
  have hn : repS ((i : Int) * 7) ∉ (pst i).pend := fun h => by
    obtain ⟨j, hj, he⟩ := List.mem_map.1 h
    simp at hj
    have := rep_inj (by omega) hi he
    omega
  rw [pb_yes' (pst_wh (by omega)), pb_yes' (rep_right _), postS, if_neg (by simp), if_neg hn, if_neg (by simp [pst]; omega)]
  simp [pst, List.range_succ]
theorem pst_len (i : Nat) : (pst i).pend.length = i := by simp [pst]
/-- What is known at any time: the outbox, what flies and what was got. -/
theorem nodup_len {α : Type} [DecidableEq α] {a b : List α} (ha : a.Nodup) (h : ∀ x ∈ a, x ∈ b) : a.length ≤ b.length := by
  induction a generalizing b with
  | nil => simp
  | cons x l ih =>
    rw [List.nodup_cons] at ha
    have hx := h x (by simp)
    have := ih (b := b.erase x) ha.2 fun y hy => (List.mem_erase_of_ne (fun e : y = x => ha.1 (e ▸ hy))).2 (h y (by simp [hy]))
    rw [List.length_erase_of_mem hx] at this
    have := List.length_pos_of_mem hx
    simp
    omega
structure LI (ps : List Rp) (o : Bx) (n : Net) (got : List Rp) : Prop where
  wh : WhP o.pend
  onn : o.nn = false → o.pend = []
  sub : ∀ x ∈ o.pend, x ∈ ps
  cov : ∀ x ∈ ps, x ∈ o.pend ∨ x ∈ got
  gs : ∀ x ∈ got, x ∈ ps
  gn : got.Nodup
  ck : CkP n
  nnn : n.nn = false → n.fly = []
  fs : ∀ y ∈ n.fly, y.r ∈ ps
structure LJ (ps : List Rp) (rd : Nat) (o : Bx) (n : Net) (got : List Rp) : Prop where
  li : LI ps o n got
  nx : n.next ≤ 8 * (rd + 1)
  f8 : n.fly.length ≤ 8
  late : 5 ≤ rd → ∀ x ∈ o.pend, ∃ y ∈ n.fly, y.r = x
theorem filter_less {l : List Lt} {b : Lt} (hb : b ∈ l) : (l.filter fun x => decide (x.n ≠ b.n)).length < l.length := by
  rcases Nat.lt_or_ge (l.filter fun x => decide (x.n ≠ b.n)).length l.length with h | h
  · exact h
  · exfalso
    have he : (l.filter fun x => decide (x.n ≠ b.n)).length = l.length := Nat.le_antisymm (List.length_filter_le _ _) h
    have := (List.filter_eq_self.1 (List.filter_sublist.eq_of_length he)) b hb
    simp at this
theorem LJ.drop {ps : List Rp} {rd : Nat} {o : Bx} {n : Net} {got : List Rp} (h : LJ ps rd o n got) (hr : rd < 5) (b : Lt) : LJ ps rd o ⟨n.next, n.fly.filter (fun x => decide (x.n ≠ b.n)), true⟩ got :=
  ⟨⟨h.li.wh, h.li.onn, h.li.sub, h.li.cov, h.li.gs, h.li.gn, ck_filter h.li.ck _ _, (fun e => by cases e), fun y hy => h.li.fs y ((List.mem_filter.1 hy).1)⟩, h.nx, Nat.le_trans (List.length_filter_le _ _) h.f8, fun h5 => by omega⟩
theorem asc_inj {l : List Lt} {lo hi : Int} (h : Asc l lo hi) {a b : Lt} (ha : a ∈ l) (hb : b ∈ l) (e : a.n = b.n) : a = b := by
  induction l generalizing lo with
  | nil => cases ha
  | cons x l ih =>
    obtain ⟨h1, h2⟩ := h
    rcases List.mem_cons.1 ha with ha | ha <;> rcases List.mem_cons.1 hb with hb | hb
    · rw [ha, hb]
    · have := (asc_all h2 b hb).1
      rw [ha] at e
      omega
    · have := (asc_all h2 a ha).1
      rw [hb] at e
      omega
    · exact ih h2 ha hb
theorem sput_mem {l : List Rp} {a x : Rp} : x ∈ sput l a ↔ x ∈ l ∨ x = a := by
  unfold sput
  split
  · exact ⟨.inl, fun h => by
      rcases h with h | rfl
      · exact h
      · assumption⟩
  · simp
theorem LJ.deliver {ps : List Rp} {rd : Nat} {o : Bx} {n : Net} {got : List Rp} (h : LJ ps rd o n got) {b : Lt} (hb : b ∈ n.fly) (keep : Bool) :
    LJ ps rd (ackS (pb (WhP o.pend)) o b.r).1 ⟨n.next, if keep = true then n.fly else n.fly.filter (fun x => decide (x.n ≠ b.n)), true⟩ (sput got b.r) := by
  have hsub : ∀ y, y ∈ (if keep = true then n.fly else n.fly.filter (fun x => decide (x.n ≠ b.n))) → y ∈ n.fly := fun y hy => by
    split at hy
    · exact hy
    · exact (List.mem_filter.1 hy).1
  have hcov : ∀ x ∈ ps, x ∈ o.pend ∨ x ∈ sput got b.r := fun x hx => (h.li.cov x hx).imp id fun g => sput_mem.2 (.inl g)
  have hgs : ∀ x ∈ sput got b.r, x ∈ ps := fun x hx => by
    rcases sput_mem.1 hx with hx | rfl
    · exact h.li.gs x hx
    · exact h.li.fs b hb
  have hgn : (sput got b.r).Nodup := by
    unfold sput
    split
    · exact h.li.gn
    · rw [List.nodup_append]
      exact ⟨h.li.gn, by simp, fun a ha c hc => by rw [List.mem_singleton.1 hc]; exact fun e => ‹b.r ∉ got› (e ▸ ha)⟩
  have hck : CkP ⟨n.next, if keep = true then n.fly else n.fly.filter (fun x => decide (x.n ≠ b.n)), true⟩ := by
    split
    · exact ⟨h.li.ck.len, h.li.ck.next, h.li.ck.asc⟩
    · exact ck_filter h.li.ck _ _
  have hf8 : (if keep = true then n.fly else n.fly.filter (fun x => decide (x.n ≠ b.n))).length ≤ 8 := by
    split
    · exact h.f8
    · exact Nat.le_trans (List.length_filter_le _ _) h.f8
  rw [pb_yes' h.li.wh]
  unfold ackS
  by_cases hin : b.r ∈ o.pend
  · rw [if_pos ⟨rfl, hin⟩]
    refine ⟨⟨h.li.wh.erase _, (fun e => by cases e), fun x hx => h.li.sub x (List.mem_of_mem_erase hx), fun x hx => ?_, hgs, hgn, hck, (fun e => by cases e), fun y hy => h.li.fs y (hsub y hy)⟩, h.nx, hf8, fun h5 x hx => ?_⟩
    · rcases hcov x hx with g | g
      · by_cases e : x = b.r
        · exact .inr (sput_mem.2 (.inr e))
        · exact .inl ((List.mem_erase_of_ne e).2 g)
      · exact .inr g
    · have hx' : x ∈ o.pend := List.mem_of_mem_erase hx
      have hne : x ≠ b.r := fun e => by
        rw [e] at hx
        exact (List.Nodup.not_mem_erase h.li.wh.nodup) hx
      obtain ⟨y, hy, hyx⟩ := h.late h5 x hx'
      refine ⟨y, ?_, hyx⟩
      show y ∈ (if keep = true then n.fly else n.fly.filter (fun x => decide (x.n ≠ b.n)))
      split
      · exact hy
      · refine List.mem_filter.2 ⟨hy, decide_eq_true fun e => hne ?_⟩
        rw [← hyx, asc_inj h.li.ck.asc hy hb e]
  · rw [if_neg (fun g => hin g.2)]
    refine ⟨⟨h.li.wh, h.li.onn, h.li.sub, hcov, hgs, hgn, hck, (fun e => by cases e), fun y hy => h.li.fs y (hsub y hy)⟩, h.nx, hf8, fun h5 x hx => ?_⟩
    have hne : x ≠ b.r := fun e => hin (e ▸ hx)
    obtain ⟨y, hy, hyx⟩ := h.late h5 x hx
    refine ⟨y, ?_, hyx⟩
    show y ∈ (if keep = true then n.fly else n.fly.filter (fun x => decide (x.n ≠ b.n)))
    split
    · exact hy
    · refine List.mem_filter.2 ⟨hy, decide_eq_true fun e => hne ?_⟩
      rw [← hyx, asc_inj h.li.ck.asc hy hb e]
theorem sends_all (l : List Rp) : ∀ (n : Net) (i : Nat), CkP n → (∀ x ∈ l, RightP x) → n.fly.length + l.length ≤ 64 → n.next + l.length ≤ 1073741824 →
    ∃ n1, sendsS n l i = (n1, ((i + l.length : Nat) : Int)) ∧ CkP n1 ∧ n1.next = n.next + l.length ∧ n1.fly.map Lt.r = n.fly.map Lt.r ++ l ∧ (n1.nn = false → n1 = n) := by
  induction l with
  | nil => exact fun n i hc _ _ _ => ⟨n, rfl, hc, by simp, by simp, fun _ => rfl⟩
  | cons x l ih =>
    intro n i hc hr h1 h2
    simp at h1 h2
    have hs := send_ok hc (hr x (by simp)) (by omega) (by omega)
    obtain ⟨n1, g1, g2, g3, g4, g5⟩ := ih ⟨n.next + 1, n.fly ++ [⟨n.next, x⟩], true⟩ (i + 1) (send_keeps hc (hr x (by simp)) (by omega) (by omega)) (fun y hy => hr y (by simp [hy])) (by simp; omega) (by simp; omega)
    refine ⟨n1, ?_, g2, by rw [g3]; simp; omega, by rw [g4]; simp, fun e => ?_⟩
    · unfold sendsS
      rw [hs]
      dsimp only
      rw [if_pos rfl, g1]
      congr 2
      simp; omega
    · have := g5 e
      rw [this] at e
      cases e
theorem LJ.resend {ps : List Rp} {rd : Nat} {o : Bx} {n : Net} {got : List Rp} (h : LI ps o n got) (hf : n.fly = []) (hn : n.next ≤ 8 * rd) (h8 : ps.length ≤ 8) (hrd : rd ≤ 1000) :
    ∃ n1, resS (pb (CkP n)) (pb (WhP o.pend)) n o = (n1, (o.pend.length : Int), 0) ∧ LJ ps rd o n1 got := by
  have hol : o.pend.length ≤ 8 := Nat.le_trans (nodup_len h.wh.nodup fun x hx => h.sub x hx) h8
  obtain ⟨n1, g1, g2, g3, g4, g5⟩ := sends_all o.pend n 0 h.ck h.wh.right (by simp [hf]; omega) (by omega)
  have hlen : n1.fly.length = o.pend.length := by
    have := congrArg List.length g4
    simpa [hf] using this
  refine ⟨n1, ?_, ⟨h.wh, h.onn, h.sub, h.cov, h.gs, h.gn, g2, fun e => by rw [g5 e]; exact hf, fun y hy => ?_⟩, by omega, by omega, fun _ x hx => ?_⟩
  · rw [pb_yes' h.ck, pb_yes' h.wh, resS, if_neg (by simp), g1]
    simp
  · have : y.r ∈ n1.fly.map Lt.r := List.mem_map.2 ⟨y, hy, rfl⟩
    rw [g4, hf] at this
    exact h.sub _ (by simpa using this)
  · have : x ∈ n1.fly.map Lt.r := by rw [g4]; exact List.mem_append.2 (.inr hx)
    obtain ⟨y, hy, e⟩ := List.mem_map.1 this
    exact ⟨y, hy, e⟩
theorem got_all {ps got : List Rp} (hp : ps.Nodup) (hg : got.Nodup) (h1 : ∀ x ∈ ps, x ∈ got) (h2 : ∀ x ∈ got, x ∈ ps) : got.length = ps.length :=
  Nat.le_antisymm (nodup_len hg fun x hx => h2 x hx) (nodup_len hp fun x hx => h1 x hx)

end Go.Proofs.Ytchaklkfaemfgaa
