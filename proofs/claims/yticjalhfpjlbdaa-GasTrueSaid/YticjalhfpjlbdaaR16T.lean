/- Type facts, printed by wip/aml/facts.py. -/
import Derived.Test.YticjalhfpjlbdaaProg
import Derived.Test.YticjalhfpjlbdaaAmlS
import Derived.KernelRfl
namespace Go.Proofs.Yticjalhfpjlbdaa
open Go Go.Aml

theorem Jf:Ws Try.prog 3=some false:=by kernel_rfl
theorem Ja:Ut Try.prog 3=some 1:=by kernel_rfl
theorem Gch:Yg Try.prog 3=some 8:=by kernel_rfl
theorem Xz:Wp Try.prog 3=some (.int .i64 0):=by kernel_rfl
theorem Gsy:Goc Try.prog 3=some .i64:=by kernel_rfl
theorem Wn:Ws Try.prog 4=some false:=by kernel_rfl
theorem Ur:Ut Try.prog 4=some 1:=by kernel_rfl
theorem Giq:Yg Try.prog 4=some 1:=by kernel_rfl
theorem Gir:Wp Try.prog 4=some (.bool false):=by kernel_rfl
theorem Gsp:Gjr Try.prog 4=true:=by kernel_rfl
theorem Gsx:(Try.prog.underlying 5).isSome=true:=by kernel_rfl
theorem Gsw:Ws Try.prog 5=some false:=by kernel_rfl
theorem Gry:Ut Try.prog 5=some 1:=by kernel_rfl
theorem Gl6:Ws Try.prog 22=some false:=by kernel_rfl
theorem Gl5:Ut Try.prog 22=some 1:=by kernel_rfl
theorem Gh2:Wz Try.prog 22=some 5:=by kernel_rfl
theorem Gfz:Wz Try.prog 23=some 65:=by kernel_rfl
theorem Xr:Wz Try.prog 24=some 57:=by kernel_rfl
theorem Vq:Ws Try.prog 28=some false:=by kernel_rfl
theorem Vl:Ut Try.prog 28=some 1:=by kernel_rfl
theorem Vj:Wz Try.prog 28=some 69:=by kernel_rfl
theorem Wu:Ws Try.prog 29=some false:=by kernel_rfl
theorem Wl:Ut Try.prog 29=some 1:=by kernel_rfl
theorem Wi:Wz Try.prog 29=some 75:=by kernel_rfl
theorem Zo:Ws Try.prog 31=some true:=by kernel_rfl
theorem Um:Ut Try.prog 31=some 2:=by kernel_rfl
theorem Gl1:Wp Try.prog 31=some (.agg #[.slice none 0 0,.slice none 0 0]):=by kernel_rfl
theorem Sy:Xk Try.prog 31 0=some (28,0):=by kernel_rfl
theorem Un:Xk Try.prog 31 1=some (29,1):=by kernel_rfl
theorem Grg:Yk Try.prog 31=some [(0,1),(1,1)]:=by kernel_rfl
theorem Ga4:Ws Try.prog 32=some false:=by kernel_rfl
theorem Gak:Ut Try.prog 32=some 1:=by kernel_rfl
theorem Gb9:Wz Try.prog 32=some 121:=by kernel_rfl
theorem Gcp:Ws Try.prog 33=some false:=by kernel_rfl
theorem Gca:Ut Try.prog 33=some 1:=by kernel_rfl
theorem Gaj:Wz Try.prog 33=some 123:=by kernel_rfl
theorem Vt:Ws Try.prog 35=some true:=by kernel_rfl
theorem Vp:Ut Try.prog 35=some 4:=by kernel_rfl
theorem Glz:Wp Try.prog 35=some (.agg #[.slice none 0 0,.slice none 0 0,.slice none 0 0,.slice none 0 0]):=by kernel_rfl
theorem Ug:Xk Try.prog 35 0=some (31,0):=by kernel_rfl
theorem Yf:Xk Try.prog 35 1=some (32,2):=by kernel_rfl
theorem Zk:Xk Try.prog 35 2=some (33,3):=by kernel_rfl
theorem Gsq:Yk Try.prog 35=some [(0,2),(2,1),(3,1)]:=by kernel_rfl
theorem Sr:Ws Try.prog 36=some false:=by kernel_rfl
theorem Sl:Ut Try.prog 36=some 1:=by kernel_rfl
theorem Jy:Wz Try.prog 36=some 3:=by kernel_rfl
theorem Wb:Ws Try.prog 38=some true:=by kernel_rfl
theorem Vs:Ut Try.prog 38=some 2:=by kernel_rfl
theorem Ggk:Wp Try.prog 38=some (.agg #[.slice none 0 0,.slice none 0 0]):=by kernel_rfl
theorem Yy:Xk Try.prog 38 0=some (36,0):=by kernel_rfl
theorem Zb:Xk Try.prog 38 1=some (36,1):=by kernel_rfl
theorem Ggl:Ws Try.prog 40=some true:=by kernel_rfl
theorem Gd5:Ut Try.prog 40=some 2:=by kernel_rfl
theorem Gl0:Wp Try.prog 40=some (.agg #[.slice none 0 0,.slice none 0 0]):=by kernel_rfl
theorem Yx:Xk Try.prog 40 0=some (36,0):=by kernel_rfl
theorem Xq:Xk Try.prog 40 1=some (36,1):=by kernel_rfl
theorem Gsr:Yk Try.prog 40=some [(0,1),(1,1)]:=by kernel_rfl
theorem Wx:Ws Try.prog 57=some true:=by kernel_rfl
theorem Ku:Ut Try.prog 57=some 2:=by kernel_rfl
theorem Gl2:Yg Try.prog 57=some 16:=by kernel_rfl
theorem Uw:Wp Try.prog 57=some (.agg #[.int .i64 0,.int .i64 0]):=by kernel_rfl
theorem Su:Xk Try.prog 57 0=some (3,0):=by kernel_rfl
theorem Uh:Xk Try.prog 57 1=some (3,1):=by kernel_rfl
theorem Yp:Yk Try.prog 57=some [(0,1),(1,1)]:=by kernel_rfl
theorem Gn2:Ws Try.prog 65=some true:=by kernel_rfl
theorem Gda:Ut Try.prog 65=some 3:=by kernel_rfl
theorem Gsn:Yg Try.prog 65=some 24:=by kernel_rfl
theorem Gfy:Wp Try.prog 65=some (.agg #[.int .i64 0,.int .i64 0,.int .i64 0]):=by kernel_rfl
theorem Gdt:Xk Try.prog 65 0=some (3,0):=by kernel_rfl
theorem Yw:Xk Try.prog 65 1=some (57,1):=by kernel_rfl
theorem Grf:Yk Try.prog 65=some [(0,1),(1,2)]:=by kernel_rfl
theorem Wc:Wz Try.prog 66=some 4:=by kernel_rfl
theorem Ggm:Wz Try.prog 67=some 71:=by kernel_rfl
theorem Grm:Ws Try.prog 69=some true:=by kernel_rfl
theorem Xo:Ut Try.prog 69=some 2:=by kernel_rfl
theorem Grh:Yg Try.prog 69=some 16:=by kernel_rfl
theorem Gcq:Wp Try.prog 69=some (.agg #[.int .i64 0,.bool false]):=by kernel_rfl
theorem Gf9:Xk Try.prog 69 0=some (3,0):=by kernel_rfl
theorem Xf:Xk Try.prog 69 1=some (4,1):=by kernel_rfl
theorem Gjm:Yk Try.prog 69=some [(0,1),(1,1)]:=by kernel_rfl
theorem Gjk:Ws Try.prog 71=some true:=by kernel_rfl
theorem Zx:Ut Try.prog 71=some 2:=by kernel_rfl
theorem Gso:Yg Try.prog 71=some 16:=by kernel_rfl
theorem Gc6:Wp Try.prog 71=some (.agg #[.int .i64 0,.int .i64 0]):=by kernel_rfl
theorem Gbu:Xk Try.prog 71 0=some (3,0):=by kernel_rfl
theorem Xp:Xk Try.prog 71 1=some (3,1):=by kernel_rfl
theorem Gh0:Yk Try.prog 71=some [(0,1),(1,1)]:=by kernel_rfl
theorem Gbs:Ws Try.prog 75=some true:=by kernel_rfl
theorem Wd:Ut Try.prog 75=some 10:=by kernel_rfl
theorem Gri:Yg Try.prog 75=some 72:=by kernel_rfl
theorem Zf:Wp Try.prog 75=some (.agg #[.int .i64 0,.int .i64 0,.int .i64 0,.int .i64 0,.bool false,.bool false,.int .i64 0,.int .i64 0,.int .i64 0,.int .i64 0]):=by kernel_rfl
theorem Uk:Xk Try.prog 75 0=some (3,0):=by kernel_rfl
theorem Vk:Xk Try.prog 75 1=some (3,1):=by kernel_rfl
theorem Yj:Xk Try.prog 75 2=some (3,2):=by kernel_rfl
theorem Gbi:Xk Try.prog 75 3=some (3,3):=by kernel_rfl
theorem Ye:Xk Try.prog 75 5=some (4,5):=by kernel_rfl
theorem Gad:Xk Try.prog 75 6=some (57,6):=by kernel_rfl
theorem Gbj:Xk Try.prog 75 7=some (57,8):=by kernel_rfl
theorem Grj:Yk Try.prog 75=some [(0,1),(1,1),(2,1),(3,1),(4,1),(5,1),(6,2),(8,2)]:=by kernel_rfl
theorem Gf0:Ws Try.prog 83=some true:=by kernel_rfl
theorem Gde:Ut Try.prog 83=some 8:=by kernel_rfl
theorem Gn4:Wp Try.prog 83=some (.agg #[.int .i64 0,.int .i64 0,.int .i64 0,.int .i64 0,.int .i64 0,.int .i64 0,.int .i64 0,.int .i64 0]):=by kernel_rfl
theorem Giv:Xk Try.prog 83 0=some (3,0):=by kernel_rfl
theorem Gbw:Xk Try.prog 83 1=some (3,1):=by kernel_rfl
theorem Zu:Xk Try.prog 83 2=some (3,2):=by kernel_rfl
theorem Gp0:Xk Try.prog 83 3=some (3,3):=by kernel_rfl
theorem Gp1:Xk Try.prog 83 4=some (3,4):=by kernel_rfl
theorem Gmb:Xk Try.prog 83 5=some (3,5):=by kernel_rfl
theorem Giw:Xk Try.prog 83 6=some (3,6):=by kernel_rfl
theorem Gmc:Xk Try.prog 83 7=some (3,7):=by kernel_rfl
theorem Gss:Yk Try.prog 83=some [(0,1),(1,1),(2,1),(3,1),(4,1),(5,1),(6,1),(7,1)]:=by kernel_rfl
theorem Gl4:Wz Try.prog 84=some 83:=by kernel_rfl
theorem Goa:Ws Try.prog 86=some true:=by kernel_rfl
theorem Gh1:Ut Try.prog 86=some 4:=by kernel_rfl
theorem Gn5:Wp Try.prog 86=some (.agg #[.int .i64 0,.int .i64 0,.int .i64 0,.int .i64 0]):=by kernel_rfl
theorem Gap:Xk Try.prog 86 0=some (3,0):=by kernel_rfl
theorem Ggc:Xk Try.prog 86 1=some (3,1):=by kernel_rfl
theorem Gdy:Xk Try.prog 86 2=some (57,2):=by kernel_rfl
theorem Gst:Yk Try.prog 86=some [(0,1),(1,1),(2,2)]:=by kernel_rfl
theorem Gn6:Wz Try.prog 87=some 86:=by kernel_rfl
theorem Gsu:Wp Try.prog 89=some (.agg #[.slice none 0 0,.int .i64 0]):=by kernel_rfl
theorem Ggb:Xk Try.prog 89 0=some (22,0):=by kernel_rfl
theorem Gci:Xk Try.prog 89 1=some (3,1):=by kernel_rfl
theorem Gsv:Yk Try.prog 89=some [(0,1),(1,1)]:=by kernel_rfl
theorem Gl9:Wz Try.prog 96=some 98:=by kernel_rfl
theorem Gs0:Ws Try.prog 98=some true:=by kernel_rfl
theorem Gjq:Ut Try.prog 98=some 2:=by kernel_rfl
theorem Gs1:Yg Try.prog 98=some 16:=by kernel_rfl
theorem Gma:Wp Try.prog 98=some (.agg #[.int .i64 0,.int .i64 0]):=by kernel_rfl
theorem Grl:God Try.prog 98=some (2,3):=by kernel_rfl
theorem Gk4:Ws Try.prog 112=some true:=by kernel_rfl
theorem Gdb:Ut Try.prog 112=some 2:=by kernel_rfl
theorem Gfk:Wp Try.prog 112=some (.agg #[.slice none 0 0,.slice none 0 0]):=by kernel_rfl
theorem Gao:Xk Try.prog 112 0=some (36,0):=by kernel_rfl
theorem Gb5:Xk Try.prog 112 1=some (36,1):=by kernel_rfl
theorem Gis:Yk Try.prog 112=some [(0,1),(1,1)]:=by kernel_rfl
theorem Xv:Ws Try.prog 118=some false:=by kernel_rfl
theorem Xu:Ut Try.prog 118=some 1:=by kernel_rfl
theorem Xa:Wz Try.prog 118=some 149:=by kernel_rfl
theorem Gaa:Ws Try.prog 121=some true:=by kernel_rfl
theorem Xw:Ut Try.prog 121=some 4:=by kernel_rfl
theorem Gr2:Yg Try.prog 121=some 40:=by kernel_rfl
theorem Gk5:Wp Try.prog 121=some (.agg #[.int .i64 0,.bool false,.bool false,.slice none 0 0]):=by kernel_rfl
theorem Ges:Xk Try.prog 121 0=some (3,0):=by kernel_rfl
theorem Gjp:Xk Try.prog 121 1=some (4,1):=by kernel_rfl
theorem We:Xk Try.prog 121 3=some (118,3):=by kernel_rfl
theorem Gr1:Yk Try.prog 121=some [(0,1),(1,1),(2,1),(3,1)]:=by kernel_rfl
theorem Gec:Ws Try.prog 123=some true:=by kernel_rfl
theorem Yl:Ut Try.prog 123=some 3:=by kernel_rfl
theorem Gr3:Yg Try.prog 123=some 40:=by kernel_rfl
theorem Ged:Wp Try.prog 123=some (.agg #[.int .i64 0,.int .i64 0,.slice none 0 0]):=by kernel_rfl
theorem Get:Xk Try.prog 123 0=some (3,0):=by kernel_rfl
theorem Yb:Xk Try.prog 123 1=some (3,1):=by kernel_rfl
theorem Ux:Xk Try.prog 123 2=some (36,2):=by kernel_rfl
theorem Gr0:Yk Try.prog 123=some [(0,1),(1,1),(2,1)]:=by kernel_rfl
theorem Gaq:Wz Try.prog 128=some 132:=by kernel_rfl
theorem Ggq:Ws Try.prog 132=some true:=by kernel_rfl
theorem Zc:Ut Try.prog 132=some 3:=by kernel_rfl
theorem Gk6:Yg Try.prog 132=some 24:=by kernel_rfl
theorem Gbp:Wp Try.prog 132=some (.agg #[.int .i64 0,.int .i64 0,.int .i64 0]):=by kernel_rfl
theorem Gdf:Xk Try.prog 132 0=some (3,0):=by kernel_rfl
theorem Gbk:Xk Try.prog 132 1=some (3,1):=by kernel_rfl
theorem Gar:Xk Try.prog 132 2=some (3,2):=by kernel_rfl
theorem Gob:Yk Try.prog 132=some [(0,1),(1,1),(2,1)]:=by kernel_rfl
theorem Gb7:Ws Try.prog 149=some true:=by kernel_rfl
theorem Wa:Ut Try.prog 149=some 2:=by kernel_rfl
theorem Grz:Yg Try.prog 149=some 16:=by kernel_rfl
theorem Gb8:Wp Try.prog 149=some (.agg #[.int .i64 0,.int .i64 0]):=by kernel_rfl
theorem Wy:Xk Try.prog 149 0=some (3,0):=by kernel_rfl
theorem Ya:Xk Try.prog 149 1=some (3,1):=by kernel_rfl
theorem Gn7:Yk Try.prog 149=some [(0,1),(1,1)]:=by kernel_rfl
end Go.Proofs.Yticjalhfpjlbdaa
