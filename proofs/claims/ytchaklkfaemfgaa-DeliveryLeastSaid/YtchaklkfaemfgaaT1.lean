import Derived.Test.YtchaklkfaemfgaaK34
import Derived.Test.YtchaklkfaemfgaaD15
namespace Go.Proofs.Ytchaklkfaemfgaa
open Go Go.Cl
def Rp.kv (x : Rp) : Value := .agg [.int .i64 x.t, .int .i64 x.a, .int .i64 x.m, .int .i64 x.e, .int .i64 x.o].toArray
theorem rp_key : KeyOk (α := Rp) CC.P 30 (fun x => .agg x.cells) Rp.kv where
  rv M w a v h := rv_plain (l := [.int .i64 a.t, .int .i64 a.a, .int .i64 a.m, .int .i64 a.e, .int .i64 a.o]) h
  rv' M w a := .agg (by simp) (fun c hc => by simp at hc; rcases hc with rfl | rfl | rfl | rfl | rfl <;> rfl) fun i c hi => by
    rcases i with _ | _ | _ | _ | _ | i
    · simp at hi; subst hi; exact .val _
    · simp at hi; subst hi; exact .val _
    · simp at hi; subst hi; exact .val _
    · simp at hi; subst hi; exact .val _
    · simp at hi; subst hi; exact .val _
    · simp at hi
  check b a w := by
    have h : ∀ n, (Instr.checkKey b (n + 1 + 1) 30 a.kv).run Try.prog w = .ok () w := fun n => by
      simp [Instr.checkKey, Rp.kv, go_sem] -- reads both types
    exact h 9998
  eq a b w := eq_rp a b w
  now := ⟨_, Try.runUnderlying30, fun a b => rfl⟩
  bits a := by
    have h : ∀ n, Instr.sameBits (n + 1) a.kv a.kv = true := fun n => by
      simp [Instr.sameBits, Rp.kv]
    exact h 9999
end Go.Proofs.Ytchaklkfaemfgaa
