/- Choices: numbers of a range, and one of several cases. -/
import Derived.Test.YticjalhfpjlbdaaPDraw16
namespace Go.L
open Go Go.Aml
theorem Zh (c:Tab) (a b:Int) (hc:Ul c) (ha : -1000000000000≤a) (hb:b≤1000000000000) (hab:a≤b):Ok (Fac c a b) fun r=>Ul r.1∧a≤r.2∧r.2≤b:=by
  unfold Fac
  rw [w64 (n:=b-a) (by omega) (by omega),w64 (by omega) (by omega)]
  refine Jt (Wq c _ hc (by omega)) fun x hx=>Je ⟨hx.1,?_,?_⟩
  · dsimp only;rw [w64 (by omega) (by omega)];omega
  · dsimp only;rw [w64 (by omega) (by omega)];omega
theorem Geo (c:Tab) (n:Int) (hc:Ul c) (hn:1≤n):Ok (Faf c n) fun r=>Ul r.1:=by
  unfold Faf
  exact Jt (Wq c n hc hn) fun x hx=>Je hx.1
end Go.L
