/- The abstract memory logic, part W: '[]byte("..")' of a constant text: a row that is marked, and never changes. -/
import Derived.Test.YticjalhfpjlbdaaAmlV
import Derived.Laws.IdiomStrings
namespace Go.Aml
open Go

theorem VI.same {F:Nat→Prop} {w w':World} (hc:∀ a,w'.cell? a=w.cell? a) {c:PV} {x:Value} (h:VI F w c x):VI F w' c x:=by
 induction h with
 | any x=>exact .any x
 | bool b=>exact .bool b
 | int k n=>exact .int k n
 | str s=>exact .str s
 | nilp=>exact .nilp
 | nils=>exact .nils
 | z0 a=>exact .z0 a
 | nilf=>exact .nilf
 | vptr cs j b off u hb hcc h1 hv ih=>exact .vptr cs j b off u hb (fun i c hi=>(hc _).trans (hcc i c hi)) h1 ih
 | vs0 sz a cap=>exact .vs0 sz a cap
 | vs sz es b off cap u hl hb hsz hcc h1 hv ih=>exact .vs sz es b off cap u hl hb hsz (fun i j c hi=>(hc _).trans (hcc i j c hi)) h1 ih
 | agg cs xs hl hv ih=>exact .agg cs xs hl ih
 | tup cs xs hl hv ih=>exact .tup cs xs hl ih
 | fn f cs ds xs ys hl hv hl2 hv2 ih ih2=>exact .fn f cs ds xs ys hl ih hl2 ih2

theorem VR.same {g:Gh} {H:List AObj} {w w':World} (hc:∀ a,w'.cell? a=w.cell? a) {c:PV} {x:Value} (h:VR g H w c x):VR g H w' c x:=by
 induction h with
 | imm h=>exact .imm (h.same hc)
 | ptr r v i j o a ho hv ha=>exact .ptr r v i j o a ho hv ha
 | sl r v off len o x ho hv h1 hx=>exact .sl r v off len o x ho hv h1 hx
 | agg cs xs hl hv ih=>exact .agg cs xs hl ih
 | tup cs xs hl hv ih=>exact .tup cs xs hl ih
 | fn f cs ds xs ys hl hv hl2 hv2 ih ih2=>exact .fn f cs ds xs ys hl ih hl2 ih2

section
variable {P:Program} {E:Env} {low loc:List AObj} {d:Option Nat} {ty:TypeId} {pos:String} {aft:Array Edge} {t e:TypeId} {x:Operand}

end
end Go.Aml
