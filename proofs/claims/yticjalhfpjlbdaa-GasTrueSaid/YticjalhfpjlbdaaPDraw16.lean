/- Choices: what the functions of the drawing package yield. -/
import Derived.Test.YticjalhfpjlbdaaLLib
import Derived.Test.YticjalhfpjlbdaaL16D
namespace Go.L
open Go Go.Aml

/-- Choices that came of at most 300 bytes. -/
def Ul (c:Tab):Prop:=Zr c.l∧c.l.length≤300∧0≤c.at_∧c.at_≤300

theorem Gr6 (l:List Int) (hl:Zr l):Ok (Fe5 l) Ul:=by
  unfold Fe5
  refine Jt (Gqg (by decide) (by omega) (by omega)) fun x hx=>Je ?_
  subst hx
  refine ⟨(hl.take _).drop _,?_,Int.le_refl 0,by show (0:Int)≤300;decide⟩
  simp
  omega
theorem Gmi {v n:Int} (h0:0≤v) (hn:1≤n):0≤v.tmod n∧v.tmod n<n:=⟨Int.tmod_nonneg n h0,Int.tmod_lt_of_pos v (by omega)⟩
theorem Gmj (c:Tab) (n:Int) (hc:Ul c):Ok (Fab c n) fun r=>Ul r.1∧0≤r.2∧(1≤n→r.2<n)∧(n<1→r.2=0):=by
  obtain ⟨h1,h2,h3,h4⟩:=hc
  unfold Fab
  have e:((bif decide (n<1) then some true else some (decide ((c.l.length:Int)≤c.at_))):Option Bool)=some (decide (n<1∨(c.l.length:Int)≤c.at_)):=by
    by_cases a:n<1
    · rw [Sj a,decide_eq_true (Or.inl a)]
    · rw [Kg a];congr 1;exact decide_eq_decide.2 ⟨fun h=>.inr h,fun h=>by rcases h with h | h;exact absurd h a;exact h⟩
  rw [e,bind_some]
  refine Ud (fun h=>Je ⟨⟨h1,h2,h3,h4⟩,Int.le_refl 0,(fun hn=>by show (0:Int)<n;omega),fun _=>rfl⟩) (fun h=>?_)
  have hn:1≤n:=by omega
  have hat:c.at_<(c.l.length:Int):=by omega
  rw [w64 (n:=c.at_+1) (by omega) (by omega),w64 (n:=c.at_+1-1) (by omega) (by omega)]
  refine Jt (Gaw (by omega) (by omega)) fun x hx=>?_
  have hxb:=h1 x (Wr hx)
  rw [w64 (n:=x) (by omega) (by omega),w64 (n:=x*256) (by omega) (by omega),w64 (n:=c.at_+1+1) (by omega) (by omega)]
  refine Jt (Q:=fun b=>b=true→c.at_+1<(c.l.length:Int)) (Ud (fun _=>Je fun h=>of_decide_eq_true h) (fun _=>Je fun h=>by cases h)) fun b hb=>?_
  refine Jt (Q:=fun r=>0≤r.1∧0≤r.2∧r.2≤300) (Gdk (fun h=>?_) (fun h=>Je ⟨hxb.1,by show 0≤c.at_+1;omega,by show c.at_+1≤300;omega⟩)) fun r hr=>?_
  · have:=hb h
    refine Jt (Gaw (by omega) (by omega)) fun y hy=>Je ?_
    have hyb:=h1 y (Wr hy)
    rw [w64 (n:=y) (by omega) (by omega),w64 (n:=x*256+y) (by omega) (by omega)]
    exact ⟨by show 0≤x*256+y;omega,by show 0≤c.at_+1+1;omega,by show c.at_+1+1≤300;omega⟩
  · rw [Ge5 (by omega),bind_some]
    have:=Gmi hr.1 hn
    exact Je ⟨⟨h1,h2,hr.2.1,hr.2.2⟩,this.1,fun _=>this.2,fun h=>by omega⟩
/-- .. of a known bound. -/
theorem Wq (c:Tab) (n:Int) (hc:Ul c) (hn:1≤n):Ok (Fab c n) fun r=>Ul r.1∧0≤r.2∧r.2<n :=
  Gqh (Gmj c n hc) fun r h=>⟨h.1,h.2.1,h.2.2.1 hn⟩
end Go.L
