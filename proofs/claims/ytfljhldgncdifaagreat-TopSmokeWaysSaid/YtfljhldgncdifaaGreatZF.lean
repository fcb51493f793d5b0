/- For TopSmokeWays, part 6. -/
import Derived.Test.YtfljhldgncdifaaGreatZE
set_option linter.unusedVariables false
set_option linter.unusedSimpArgs false
open Go.IntKind renaming wrap → c3, i64 → c4, u64 → g0
open Decidable renaming decide → c5, byContradiction → d3, not_not → dv
open List renaming getElem?_eq_getElem → c6, getElem_mem → d0, getElem?_eq_some_iff → d2, length_set → d4, mem_singleton → d5, mem_append → d6, mem_iff_getElem → d7, length_replicate → d8, length_take → d9, replicate → dd, getD_eq_getElem?_getD → dk, length_append → dT, zipWith → e0, mem_or_eq_of_mem_set → e4, length_cons → e5, length_map → e6, getElem?_append_right → ea, drop_eq_getElem_cons → ei, getElem?_set_self → ej, eq_of_mem_replicate → eo, take_length → ev, length_drop → ey, getElem?_append_left → ez, pairwise_iff_getElem → eE, length_zipWith → eH, getElem?_set_ne → f2, getElem?_replicate → f4, append_assoc → f6, getElem?_set → f8, map_append → f9, length_nil → fd, take_of_length_le → fe, mem_iff_getElem? → ft, perm_singleton → g3, set_cons_zero → g4, drop_of_length_le → g5, getElem?_eq_none → g6, getElem_zipWith → ga, mem_map → gy, drop_zero → h5, set_append_right → h8, length_filter_le → hq, mem_cons → hz, map_cons → hB, mem_filter → hD, set_cons_succ → hI, getElem?_take → hK, pairwise_cons → hL, ext_getElem? → hM, any_eq_false → hQ
open Option renaming some → c7, none → gc
open Int renaming toNat_natCast → d1, le_refl → ec, fdiv_eq_ediv_of_nonneg → g7, eq_ofNat_of_zero_le → gv, emod_add_mul_ediv → h9
open Sum renaming elim_inr → dt, elim_inl → ef, inl → hP
open Bool renaming not_true → ee, or_eq_false_iff → g9, and_eq_true → gb, false_eq_true → ge, not_false → h7
open Nat renaming le_refl → f1, le_trans → f5, sub_self → gx, mod_eq_of_lt → hu
open List.Perm renaming cons_inv → f7, swap → h6
open BitVec renaming ofInt_natCast → g8, toNat_ofNat → gt, ofInt → hS
namespace Go.X.T
open Go Go.Aml
structure ny (x:aB):Prop where
 pl:Sm x.ao.ai
 rd:Sm x.ao.af
 pe:Sm x.aN
 tg:Sm x.aw
 rs:Sm x.aQ
 rp:∀r,r∈x.aQ->Sm r.ai
 nu:Sm x.cn
 lo:Sm x.cf
 mi:Sm x.bp
 mr:∀l,l∈x.bp->Sm l
theorem cX{d:Type}{a:List d}{n:Nat}(b:a.length<=n)(c:n<=1000000):Sm a:=f5 b c
theorem fw.sm{x:aB}(h:fw x):ny x:=by
 obtain⟨⟨d,t,m⟩,o,C,E,u,w,B,F,k,y⟩:=h;refine⟨cX d.1 (by decide),cX d.2.1 (by decide),cX o.2 (by decide),cX (n:=12) (by omega) (by decide),cX t (by decide),λr j=>?_,cX (n:=32) (by omega) (by decide),cX (n:=32) (by omega) (by decide),cX (n:=32) (by omega) (by decide),λA s=>?_⟩
 ·have:=(m r j).2.1.len (by omega);have:=d.1;exact cX (n:=64) (by omega) (by decide)
 ·obtain⟨i,l,rfl⟩:=d7.1 s;obtain⟨r,a,b,c,_,_,_,e,_,_,_,D,_⟩:=k i (by omega);rw[c6 l] at e;injection e with e
  rw[e];exact cX (n:=12) (by omega) (by decide)
theorem ny.fit{x:aB}(h:ny x):∀r,r∈x.aQ->Fit r.ai:=λr a=>f5 (h.rp r a) (by decide)
theorem jW{b:Type}{a done d:List b}{f:b}(e:Sm a)(c:a=done++f::d):done.length<=2000000:=by
 have g:a.length<=1000000:=e;have:=iy c;omega
theorem jZ{c:Type}{a:List c}(b:Sm a):a.length<=1000000:=b
theorem dL{b e:Type}{m:Option b}{a:b}{c:b->Option e}(d:m=c7 a):m.bind c=c a:=by subst d;rfl
theorem agL{x:aB}(b:ny x):yS LC x=c7 x:=by
 unfold yS;rw[mV b.pl,aa,nk b.rd,aa,Ep b.pe,aa,bV b.tg,aa];have j:=jm (f:=λd=>ue LC x (Oe d) (Nk d)) x.aQ (λa i=>u9 ({x with aQ:=a}:aB) i) (λa=>u3 ({x with aQ:=a}:aB)) (λa r h c=>by
  show ue LC x ({x with aQ:=a}:aB) (a.length:Int)=_
  unfold ue;have e:=jW b.rs c;rw[aC (iy c),jg c,aa,bV (b.rp r (ks c)),aa,dm (by decide) e,aa,aJ]) (by
  show ue LC x x (x.aQ.length:Int)=_
  unfold ue;rw[aG])
 refine(dL j).trans ?_
 dsimp only;rw[bV b.nu,aa,bV b.lo,aa];have g:=jm (f:=λd=>tG LC x (CU d) (Eg d)) x.bp (λa i=>u1 ({x with bp:=a}:aB) i) (λa=>u3 ({x with bp:=a}:aB)) (λa r h c=>by
  show tG LC x ({x with bp:=a}:aB) (a.length:Int)=_
  unfold tG;have e:=jW b.mi c;rw[aC (iy c),jg c,aa,bV (b.mr r (ks c)),aa,dm (by decide) e,aa,aJ]) (by
  show tG LC x x (x.bp.length:Int)=_
  unfold tG;rw[aG])
 exact(dL g).trans rfl
theorem Sy{a:aB}(c:ny a):yC LC a=c7 (B7 a):=by
 unfold yC;rw[mV c.pl,aa,nk c.rd,aa,Ep c.pe,aa,bV c.tg,aa];have k:=jm (f:=λe=>sK LC a (Pa a.aN e) (Oj e)) a.aQ (λb i=>Ga ({a with aQ:=b}:aB) i) (λb=>DY ({a with aQ:=b}:aB)) (λb r j d=>by
  show sK LC a ({a with aQ:=b}:aB) (b.length:Int)=_
  unfold sK;have g:=jW c.rs d;rw[aC (iy d),jg d,aa,bV (c.rp r (ks d)),aa,dm (by decide) g,aa,aJ]) (by
  show sK LC a a (a.aQ.length:Int)=_
  unfold sK;rw[aG])
 refine(dL k).trans ?_
 dsimp only;rw[bV c.nu,aa,bV c.lo,aa];have h:=jm (f:=λe=>vc LC a (LU a.aN e) (Tv e)) a.bp (λb i=>J4 ({a with bp:=b}:aB) i) (λb=>DY ({a with bp:=b}:aB)) (λb r j d=>by
  show vc LC a ({a with bp:=b}:aB) (b.length:Int)=_
  unfold vc;have g:=jW c.mi d;rw[aC (iy d),jg d,aa,bV (c.mr r (ks d)),aa,dm (by decide) g,aa,aJ]) (by
  show vc LC a a (a.bp.length:Int)=_
  unfold vc;rw[aG])
 exact(dL h).trans rfl
theorem ans{a:aB}(c:ny a):D6 LC a=c7 (MF a):=by
 unfold D6;rw[mV c.pl,aa,nk c.rd,aa,Ep c.pe,aa,bV c.tg,aa];have k:=jm (f:=λe=>tW LC a (MR a.ao.af a.aN e) (L9 e)) a.aQ (λb i=>KL ({a with aQ:=b}:aB) i) (λb=>CD ({a with aQ:=b}:aB)) (λb r j d=>by
  show tW LC a ({a with aQ:=b}:aB) (b.length:Int)=_
  unfold tW;have g:=jW c.rs d;rw[aC (iy d),jg d,aa,bV (c.rp r (ks d)),aa,dm (by decide) g,aa,aJ]) (by
  show tW LC a a (a.aQ.length:Int)=_
  unfold tW;rw[aG])
 refine(dL k).trans ?_
 dsimp only;rw[bV c.nu,aa,bV c.lo,aa];have h:=jm (f:=λe=>va LC a (R4 a.ao.af a.aN e) (Lw e)) a.bp (λb i=>IC ({a with bp:=b}:aB) i) (λb=>CD ({a with bp:=b}:aB)) (λb r j d=>by
  show va LC a ({a with bp:=b}:aB) (b.length:Int)=_
  unfold va;have g:=jW c.mi d;rw[aC (iy d),jg d,aa,bV (c.mr r (ks d)),aa,dm (by decide) g,aa,aJ]) (by
  show va LC a a (a.bp.length:Int)=_
  unfold va;rw[aG])
 exact(dL h).trans rfl
theorem oc{a:aB}(c:ny a){h:Type}(g:List bP->List aZ->Int->List bC->List Int->List aS->List Int->List Int->Option h):
 FD LC a g=g a.ao.ai a.ao.af a.Time a.aN a.aw a.aQ a.cn a.cf:=by
 unfold FD;rw[mV c.pl,aa,nk c.rd,aa,Ep c.pe,aa,bV c.tg,aa];have j:=jm (f:=λb=>DC LC a b.1 b.2.1 b.2.2.1 b.2.2.2.1 b.2.2.2.2.1 b.2.2.2.2.2.1 b.2.2.2.2.2.2.1 b.2.2.2.2.2.2.2.1 b.2.2.2.2.2.2.2.2) a.aQ (λe i=>(a.ao.ai,a.ao.af,a.Time,a.aN,a.cn,a.cf,a.bp,e,i)) (λe=>(a.ao.ai,a.ao.af,a.Time,a.aN,e,a.cn,a.cf,a.bp)) (λe r l d=>by
  dsimp only;unfold DC;have k:=jW c.rs d;rw[aC (iy d),jg d,aa,bV (c.rp r (ks d)),aa,dm (by decide) k,aa,aJ]) (by
  dsimp only;unfold DC;rw[aG])
 refine(dL j).trans ?_
 dsimp only;rw[bV c.nu,aa,bV c.lo,aa]
def other(a:ak)(i p:Int):Int:=if 0<=i then(match a.af[i.toNat]? with |some r=>if p=r.an then r.To else if p=r.To then r.an else -1 |none=>-1) else -1
theorem ajF(a:ak)(i p:Int):CX LC a i p=c7 (other a i p):=by
 unfold CX other;rw[ew rfl,aa]
 by_cases d:i<0\/(a.af.length:Int)<=i
 ·rw[aC d]
  by_cases h0:0<=i
  ·rw[if_pos h0,g6 (by omega)]
  ·rw[if_neg h0]
 ·have e:i.toNat<a.af.length:=by omega
  rw[aG d,qC (by omega) (by omega),aa,if_pos (by omega),c6 e];dsimp only
  by_cases c:p=a.af[i.toNat].an
  ·rw[aC c,if_pos c]
  ·rw[aG c,if_neg c]
   by_cases b:p=a.af[i.toNat].To
   ·rw[aC b,if_pos b]
   ·rw[aG b,if_neg b]
theorem NJ{b:Type}{f:List b×Int->Option ((List b×Int)⊕List b)}(g:b->b)(a:List b)
 (h:∀(i:Nat) (aK:List b) (e:b),i<a.length->aK.length=a.length->aK[i]? =c7 e->a[i]? =c7 e->f (aK,(i:Int))=c7 (.inl (aK.set i (g e),(i:Int)+1)))
 (k:∀aK:List b,aK.length=a.length->f (aK,(a.length:Int))=c7 (.inr aK)):bO f (a,0)=c7 (a.map g):=by
 have:=nV (f:=f) a.length (λi=>((a.take i).map g++a.drop i,(i:Int))) (a.map g) (λi c=>?_) (by
  have:=k ((a.take a.length).map g++a.drop a.length) (by simp);rw[this];simp)
 ·simpa using this
 ·have d:((a.take i).map g).length=i:=by rw[e6,d9];omega
  have l:((a.take i).map g++a.drop i)[i]? =c7 a[i]:=by
   rw[ea (by omega),d,gx,ei c];rfl
  rw[h i _ a[i] c (by rw[dT,d,ey];omega) l (c6 c)];have j:((a.take i).map g++a.drop i).set i (g a[i])=(a.take (i+1)).map g++a.drop (i+1):=by
   rw[h8 _ _ (by omega),d,gx,ei c,g4, <-List.take_append_getElem c,f9,f6]
   rfl
  rw[j]
  rfl
def uf(c:ak)(b:Int)(a:bC):bC:=if a.Road<0 then a else if a.Left -b<=0 then⟨other c a.Road a.Place,-1,0⟩ else⟨a.Place,a.Road,a.Left -b⟩
def x7(a:aB)(b:Int):aB:={a with Time:=a.Time+b,aN:=a.aN.map (uf a.ao b)}
theorem ou{d:Type}{a:List d}{i:Nat}{e:d}(b:a[i]? =c7 e):a.set i e=a:=by
 apply hM
 intro f;rw[f8]
 by_cases c:i=f
 ·subst c;have:=(d2.1 b).1;rw[if_pos rfl,if_pos this,b]
 ·rw[if_neg c]
theorem RE{a:aB}(b:Int)(q:∀r,r∈a.aQ->Fit r.ai):Ok (qp LC a b) λr=>(r.2≠0/\r.1=a)\/(r.2=0/\fw a/\0<=b/\a.Time+b<=2147483648/\r.1=x7 a b):=by
 unfold qp;rw[xf a q,aa,de]
 by_cases c:fw a
 rotate_left
 ·rw[aG c];exact ae (.inl ⟨by simp,rfl⟩)
 rw[aC c,cF,aa,de];have u:=c.2.2.2.2.1;refine aV (λk=>?_) (λk=>ae (.inl ⟨by simp,rfl⟩))
 rw[aJ (n:=a.Time+b)];refine aV (λo=>ae (.inl ⟨by simp,rfl⟩)) (λo=>?_)
 rw[Sy c.sm,aa];have p:bO (λe=>vz LC (Bi (B7 a)) b a e.1 e.2) ((Bi (B7 a)).aN,0)=c7 (a.aN.map (uf a.ao b)):=by
  refine NJ (f:=λe=>vz LC a b a e.1 e.2) (uf a.ao b) a.aN (λi aK d t s j l=>?_) (λaK s=>?_)
  ·dsimp only;unfold vz;have v:=c.2.1;rw[aC,bn,j,aa,d1,j,aa,aJ (n:=(i:Int)+1)];have m:=c.2.2.2.2.2.2.2.2.2 d (fC l);have w:0<=d.Left/\d.Left<=2147483648:=by
    have:=m.2
    split at this <;> omega
   rw[aJ (n:=d.Left -b)];unfold uf
   by_cases g:d.Road<0
   ·rw[aC g,if_pos g,aa,ou j]
   ·rw[aG g,if_neg g]
    by_cases h:d.Left -b<=0
    ·rw[aC h,if_pos h,ajF,aa,aa,aa,aa,aa]
    ·rw[aG h,if_neg h,aa,aa,aa,aa]
  ·dsimp only;unfold vz;rw[aG]
 dsimp only;refine c8 p ?_
 refine ae (.inr ⟨rfl,c,k.1,by omega,?_⟩)
 show({a with Time:=c3 c4 (a.Time+b),aN:=_}:aB)=x7 a b
 rw[aJ]
 rfl
theorem WV{a:aB}(g:fw a):x7 a 0=a:=by
 unfold x7;have d:a.aN.map (uf a.ao 0)=a.aN:=by
  conv=>rhs;rw[<-List.map_id a.aN]
  refine List.map_congr_left λb e=>?_
  unfold uf;have f:=(g.2.2.2.2.2.2.2.2.2 b e).2
  by_cases c:b.Road<0
  ·rw[if_pos c];rfl
  ·rw[if_neg c];rw[if_neg (by omega)] at f;rw[if_neg (by omega),Int.sub_zero];rfl
 rw[d,Int.add_zero]
theorem HQ{b:aB}(c:∀r,r∈b.aQ->Fit r.ai):Ok (qp LC b 0) λr=>r.1=b:=by
 refine gh (RE 0 c) λr a=>?_
 rcases a with a |⟨_,a,_,_,d⟩
 ·exact a.2
 ·rw[d,WV a]
theorem LZ{c:aB}(a:List Int)(k:∀r,r∈c.aQ->Fit r.ai)(o:a.length<=100):Ok (wv LC c a) λf=>(f=0->fw c/\∀i,i∈a->0<=i/\i<(c.aN.length:Int)):=by
 unfold wv;rw[xf c k,aa,de]
 by_cases e:fw c
 rotate_left
 ·rw[aG e];exact ae λb=>absurd b (by simp)
 rw[aC e];have p:=e.2.1;have f:bO (λg=>wC LC a c g) 0=c7 (if ∀i,i<a.length->(λi:Nat=>c5 (¬(0<=a.getD i 0/\a.getD i 0<=(c.aN.length:Int) -1))) i=false then .inr () else .inl ()):=by
  refine oD _ _ () (λi d=>?_) ?_
  ·unfold wC;rw[aC,uu d,aa,aJ (n:=(c.aN.length:Int) -1),cF,aa,aJ]
   by_cases b:0<=a.getD i 0/\a.getD i 0<=(c.aN.length:Int) -1
   ·rw[decide_eq_true b,decide_eq_false (λh=>h b)];rfl
   ·rw[decide_eq_false b,decide_eq_true b];rfl
  ·unfold wC;rw[aG]
 rw[show LC.loop (λg=>wC LC a c g) 0=_ from f,aa]
 by_cases b:∀i,i<a.length->0<=a.getD i 0/\a.getD i 0<=(c.aN.length:Int) -1
 ·rw[if_pos (λi d=>decide_eq_false (λh=>h (b i d)))];refine ae λ_=>⟨e,λm j=>?_⟩
  obtain⟨i,d,rfl⟩:=d7.1 j;have:=b i d;rw[pu (c6 d)] at this;omega
 ·rw[if_neg (λl=>b λi d=>by have:=of_decide_eq_false (l i d);exact d3 this)];exact ae λb=>absurd b (by simp)
theorem set_set{c:Type}(a:List c)(i:Nat)(d b:c):(a.set i d).set i b=a.set i b:=List.set_set _
theorem ahi{b:aB}(i r f:Int)(t:∀r,r∈b.aQ->Fit r.ai):Ok (B1 LC b i r f) λq=>(q.2≠0/\q.1=b)\/
 (q.2=0/\fw b/\0<=i/\(0<=f/\f<=3600)/\∃a,b.aN[i.toNat]? =c7 a/\a.Road<0/\0<=mQ b.ao r a.Place/\q.1={b with aN:=b.aN.set i.toNat ⟨a.Place,r,mQ b.ao r a.Place+f⟩}):=by
 unfold B1;refine aD (LZ [i] t (by simp)) λB v=>?_
 refine aV (λc=>ae (.inl ⟨c,rfl⟩)) (λc=>?_)
 obtain⟨h,e⟩:=v (dv.1 c);have e:=e i (by simp);have g:b.aN[i.toNat]? =c7 (b.aN[i.toNat]'(by omega)):=c6 (by omega);generalize b.aN[i.toNat]'(by omega)=a at g;have k:∀l:List bC,l[i.toNat]? =c7 a->aj l i=c7 a:=λl s=>by
  unfold aj;rw[if_pos e.1];exact s
 have o:=h.1.1;have:=o.2.1;rw[k _ g,aa,Tt _ _ _ (by omega),aa];refine aV (λc=>ae (.inl ⟨by simp,rfl⟩)) (λz=>?_)
 refine aV (λc=>ae (.inl ⟨by simp,rfl⟩)) (λA=>?_)
 rw[cF,aa,de];refine aV (λp=>?_) (λc=>ae (.inl ⟨by simp,rfl⟩))
 rw[Sy h.sm,aa];have m:i.toNat<b.aN.length:=by omega
 show Ok ((aj b.aN i).bind _) _
 rw[k _ g,aa];show Ok ((b.aN[i.toNat]?).bind _) _
 rw[g,aa];have j:(b.aN.set i.toNat (bC.mk a.Place r a.Left))[i.toNat]? =c7 (bC.mk a.Place r a.Left):=ej m;have n:aj (b.aN.set i.toNat (bC.mk a.Place r a.Left)) i=c7 (bC.mk a.Place r a.Left):=by unfold aj;rw[if_pos e.1];exact j
 show Ok ((aj (b.aN.set i.toNat (bC.mk a.Place r a.Left)) i).bind _) _
 rw[n,aa];show Ok (((b.aN.set i.toNat (bC.mk a.Place r a.Left))[i.toNat]?).bind _) _
 rw[j,aa];refine ae (.inr ⟨rfl,h,e.1,p,a,rfl,by omega,by omega,?_⟩)
 show({b with aN:=(b.aN.set i.toNat (bC.mk a.Place r a.Left)).set i.toNat (bC.mk a.Place r (c3 c4 (mQ b.ao r a.Place+f)))}:aB)=_
 have w:mQ b.ao r a.Place<=1000099:=by
  unfold mQ;have y:=rF b.ao r false (u:=6) (d:=9) (l:=12) (by decide);have x:=rF b.ao r true (u:=6) (d:=9) (l:=12) (by decide)
  split
  ·split
   ·split
    ·omega
    ·split <;> omega
   ·omega
  ·omega
 rw[set_set,aJ]
def cY(a:ak)(i:Int):ak:=⟨a.ai,match a.af[i.toNat]? with |some r=>a.af.set i.toNat {r with eN:=true} |none=>a.af⟩
def n8(i:Int)(a:bC):bC:=if a.Road=i then⟨a.Place,-1,0⟩ else a
theorem Uf{x:aB}(i:Int)(l:∀r,r∈x.aQ->Fit r.ai):Ok (wO LC x i) λq=>(q.2≠0/\q.1=x)\/
 (q.2=0/\fw x/\0<=i/\(∃r,x.ao.af[i.toNat]? =c7 r/\r.eN=false)/\q.1={x with ao:=cY x.ao i,aN:=x.aN.map (n8 i)}):=by
 unfold wO;rw[xf x l,aa,de]
 by_cases a:fw x
 rotate_left
 ·rw[aG a];exact ae (.inl ⟨by simp,rfl⟩)
 rw[aC a];have s:=a.1.1.2.1;rw[aJ (n:=(x.ao.af.length:Int) -1),cF,aa,de]
 by_cases e:0<=i/\i<=(x.ao.af.length:Int) -1
 rotate_left
 ·rw[aG e,aa];exact ae (.inl ⟨by simp,rfl⟩)
 have c:x.ao.af[i.toNat]? =c7 (x.ao.af[i.toNat]'(by omega)):=c6 (by omega);generalize x.ao.af[i.toNat]'(by omega)=r at c;have g:aj x.ao.af i=c7 r:=by unfold aj;rw[if_pos e.1];exact c
 rw[aC e,g,aa,aa];cases m:r.eN with
 |true=>exact ae (.inl ⟨by simp,rfl⟩)
 |false=>
  simp only[cond_false];rw[ans a.sm,aa];show Ok ((aj x.ao.af i).bind _) _
  rw[g,aa];show Ok ((x.ao.af[i.toNat]?).bind _) _
  rw[c,aa];have h:bO (λb=>vt LC x i b.1 b.2) (x.aN,0)=c7 (x.aN.map (n8 i)):=by
   refine NJ (n8 i) x.aN (λk aK j u o f p=>?_) (λaK o=>?_)
   ·dsimp only;unfold vt;have t:=a.2.1;rw[aC,bn,f,aa,d1,f,aa,aa,aa,aJ (n:=(k:Int)+1)];unfold n8
    by_cases d:j.Road=i
    ·rw[aC d,if_pos d,aa]
    ·rw[aG d,if_neg d,aa,ou f]
   ·dsimp only;unfold vt;rw[aG]
  show Ok ((bO (λb=>vt LC x i b.1 b.2) (x.aN,0)).bind _) _
  rw[h,aa];refine ae (.inr ⟨rfl,a,e.1,⟨r,rfl,m⟩,?_⟩)
  unfold cY;rw[c]
  rfl
def gL{d:Type}(c b:Int)(a:List d):List d:=match a[c.toNat]?,a[b.toNat]? with |some f,c7 e=>(a.set c.toNat e).set b.toNat f |_,_=>a
theorem Mm{c b:Int}{k:Type}{a:List Int}{i:List Int->Option k}(l:0<=c/\c<(a.length:Int))(g:0<=b/\b<(a.length:Int)):swp c b a i=i (gL c b a):=by
 have f:a[c.toNat]? =c7 (a[c.toNat]'(by omega)):=c6 (by omega);have e:a[b.toNat]? =c7 (a[b.toNat]'(by omega)):=c6 (by omega);unfold swp gL;generalize a[c.toNat]'(by omega)=p at f;generalize a[b.toNat]'(by omega)=d at e;have n:aj a c=c7 p:=by unfold aj;rw[if_pos l.1];exact f
 have j:aj a b=c7 d:=by unfold aj;rw[if_pos g.1];exact e
 have o:b.toNat<(a.set c.toNat d).length:=by rw[d4];omega
 have h:(a.set c.toNat d)[b.toNat]? =c7 ((a.set c.toNat d)[b.toNat]):=c6 o;have m:aj (a.set c.toNat d) b=c7 ((a.set c.toNat d)[b.toNat]):=by unfold aj;rw[if_pos g.1];exact h
 rw[j,aa,e,aa,n,aa,f,aa,aa,aa,m,aa,h,aa]
theorem ZX{x:aB}(i a:Int)(O:∀r,r∈x.aQ->Fit r.ai)(F:x.bp.length<=3):Ok (oX LC x i a) λq=>(q.2≠0/\q.1=x)\/
 (q.2=0/\fw x/\(0<=i/\i<(x.aN.length:Int))/\(0<=a/\a<(x.aN.length:Int))/\i≠a/\(∃h b,x.aN[i.toNat]? =c7 h/\x.aN[a.toNat]? =c7 b/\h.Place=b.Place)/\q.1={x with aw:=gL i a x.aw,bp:=x.bp.map (gL i a)}):=by
 unfold oX;refine aD (LZ [i,a] O (by simp)) λN B=>?_
 refine aV (λl=>ae (.inl ⟨l,rfl⟩)) (λl=>?_)
 obtain⟨n,C⟩:=B (dv.1 l);have p:=C i (by simp);have s:=C a (by simp);refine aV (λl=>ae (.inl ⟨by simp,rfl⟩)) (λM=>?_)
 have z:x.aN[i.toNat]? =c7 (x.aN[i.toNat]'(by omega)):=c6 (by omega);have y:x.aN[a.toNat]? =c7 (x.aN[a.toNat]'(by omega)):=c6 (by omega);generalize x.aN[i.toNat]'(by omega)=h at z;generalize x.aN[a.toNat]'(by omega)=b at y;have I:aj x.aN i=c7 h:=by unfold aj;rw[if_pos p.1];exact z
 have H:aj x.aN a=c7 b:=by unfold aj;rw[if_pos s.1];exact y
 rw[I,aa,H,aa];refine aV (λl=>ae (.inl ⟨by simp,rfl⟩)) (λL=>?_)
 have P:=dv.1 L;have D:=n.2.2.1;have E:∀c,c∈x.bp->c.length=x.aN.length:=λc u=>by
  obtain⟨k,K,rfl⟩:=d7.1 u;obtain⟨_,_,_,N,_,_,_,v,_,_,_,B,_⟩:=n.2.2.2.2.2.2.2.2.1 k (by have:=n.2.2.2.2.2.2.2.1;omega);rw[c6 K] at v;injection v with v
  rw[v];exact B
 have m:=n.sm;have j:∀A:aB,A={x with aw:=gL i a x.aw,bp:=x.bp.map (gL i a)}->Ok (c7 (A,(0:Int))) λq=>(q.2≠0/\q.1=x)\/(q.2=0/\fw x/\(0<=i/\i<(x.aN.length:Int))/\(0<=a/\a<(x.aN.length:Int))/\i≠a/\(∃h b,x.aN[i.toNat]? =c7 h/\x.aN[a.toNat]? =c7 b/\h.Place=b.Place)/\q.1={x with aw:=gL i a x.aw,bp:=x.bp.map (gL i a)}):=
  λA J=>ae (.inr ⟨rfl,n,p,s,M,⟨h,b,z,y,P⟩,J⟩)
 have d:∀{w:Type} {k:List Int->Option w} (c:List Int),c∈x.bp->swp i a c k=k (gL i a c):=λc u=>Mm (by rw[E c u];exact p) (by rw[E c u];exact s)
 have t:∀{w:Type} {k:List Int->Option w},swp i a x.aw k=k (gL i a x.aw):=Mm (by rw[D];exact p) (by rw[D];exact s);have f:=m.mr
 match e:x.bp with
 |[]=>
  rw[e] at j;dsimp only;unfold we;rw[e];dsimp only;rw[oc m,aa];dsimp only;rw[t];exact j _ rfl
 |[g]=>
  rw[e] at j d f;dsimp only;unfold uR;rw[e];dsimp only;rw[oc m,bV (f g (by simp)),aa,aa];dsimp only;rw[t,d g (by simp)];exact j _ rfl
 |[g,o]=>
  rw[e] at j d f;dsimp only;unfold pO;rw[e];dsimp only;rw[oc m,bV (f g (by simp)),aa,bV (f o (by simp)),aa,aa];dsimp only;rw[t,d g (by simp),d o (by simp)];exact j _ rfl
 |[g,o,G]=>
  rw[e] at j d f;dsimp only;unfold nM;rw[e];dsimp only;rw[oc m,bV (f g (by simp)),aa,bV (f o (by simp)),aa,bV (f G (by simp)),aa,aa];dsimp only;rw[t,d g (by simp),d o (by simp),d G (by simp)];exact j _ rfl
 |_::_::_::_::_=>rw[e] at F;simp at F
theorem Bb{l:List Int}{x:Int}(c:Fit l):to LC l x=c7 (gg (λa=>c5 (x=a)) l):=by
 unfold to;exact fF (l:=l) (P:=λa=>c7 (c5 (x=a))) (p:=λa=>c5 (x=a)) (f:=λb=>Nf LC l x b) c (λ_ _=>rfl) (λb=>rfl)
theorem contains_eq{b:List Int}{c:Int}(e:Fit b):im LC b c=c7 (c5 (c∈b)):=by
 unfold im;rw[Bb e,aa,gm]
 congr 1
 rw[Bool.eq_iff_iff,List.any_eq_true,decide_eq_true_iff]
 constructor
 ·rintro⟨f,d,a⟩;rw[of_decide_eq_true a];exact d
 ·exact λa=>⟨c,a,decide_eq_true rfl⟩
def xj(c:ak)(a:List aS)(b e:List Int)(d:Int):aB:=⟨c,d,b.map λp=>⟨p,-1,0⟩,e,a,a.map λ_=>-1,a.map λ_=>-1,a.map λ_=>dd b.length 0⟩
theorem start_eq{c:ak}{b:List aS}{a e:List Int}{g:Int}(q:uG c b)(I:e.length=a.length)(H:1<=a.length/\a.length<=12)(C:∀p,p∈a->0<=p/\p<(c.ai.length:Int))(D:lz e)(A:0<=g/\g<=2147483648):
 Ef LC c b a e g=c7 (xj c b a e g,0):=by
 have o:=q.1;have m:=q.2.1;have u:∀r,r∈b->Sm r.ai:=λr s=>by
  have:=(q.2.2 r s).2.1.len (by omega);have:=o.1;exact cX (n:=64) (by omega) (by decide)
 unfold Ef;rw[Pm _ _ (λr s=>f5 (u r s) (by decide)),aa,cF,aa,lA,ew rfl,fh rfl,aa,aG (by
  rintro(h |h |h)
  ·exact h q
  ·omega
  ·omega)]
 have G:Cg LC a c=c7 (a.any λp=>!c5 (0<=p/\p<=(c.ai.length:Int) -1)):=by
  unfold Cg KC;have:=fF (l:=a) (P:=λv=>Ci LC v c) (p:=λp=>!c5 (0<=p/\p<=(c.ai.length:Int) -1)) (f:=λj=>KM LC a c j) (by omega) (λv J=>by
   unfold Ci;have:=o.1;rw[aJ,cF,aa]) (λj=>rfl)
  rw[show(LC.loop (λj=>KM LC a c j) 0).bind _=_ from this,aa,gm]
 rw[G,aa,HA,aG (λh=>h λp F=>by have:=C p F;omega),KN (cX (n:=12) (by omega) (by decide)),aa,decide_eq_true D,cF,aa,decide_eq_true A];simp only[ee,cond_false];have E:=jm (f:=λj=>tX LC a (L6 j) (T0 j)) a (λd i=>u8 (aB.mk c g (d.map λp=>⟨p,-1,0⟩) e b [] [] []) i) (λd=>u3 (aB.mk c g (d.map λp=>⟨p,-1,0⟩) e b [] [] [])) (λd r B h=>by
  show tX LC a (aB.mk c g (d.map λp=>⟨p,-1,0⟩) e b [] [] []) (d.length:Int)=_
  unfold tX;have k:=iy h;rw[aC k,jg h,aa,dm (by decide) (by rw[e6];omega),aa,aJ,f9]
  rfl) (by
  show tX LC a (aB.mk c g (a.map λp=>⟨p,-1,0⟩) e b [] [] []) (a.length:Int)=_
  unfold tX;rw[aG])
 refine(dL E).trans ?_
 have w:=jm (f:=λj=>sH LC b a (CU j) (Eg j)) b (λd i=>u1 (aB.mk c g (a.map λp=>⟨p,-1,0⟩) e b (d.map λ_=>-1) (d.map λ_=>-1) (d.map λ_=>dd a.length 0)) i) (λd=>u3 (aB.mk c g (a.map λp=>⟨p,-1,0⟩) e b (d.map λ_=>-1) (d.map λ_=>-1) (d.map λ_=>dd a.length 0))) (λd r B h=>by
  show sH LC b a (aB.mk c g (a.map λp=>⟨p,-1,0⟩) e b (d.map λ_=>-1) (d.map λ_=>-1) (d.map λ_=>dd a.length 0)) (d.length:Int)=_
  unfold sH;have k:=iy h;have t:d.length<=2000000:=by omega
  rw[aC k];dsimp only;rw[dm (by decide) (by rw[e6];exact t),nS (by omega) (by omega)];simp only[aa];rw[dm (by decide) (by rw[e6];exact t),aa,aJ,f9,f9]
  rfl) (by
  show sH LC b a (aB.mk c g (a.map λp=>⟨p,-1,0⟩) e b (b.map λ_=>-1) (b.map λ_=>-1) (b.map λ_=>dd a.length 0)) (b.length:Int)=_
  unfold sH;rw[aG])
 refine(congrArg (λz=>Option.bind z _) (dL w)).trans ?_
 show((yS LC (xj c b a e g)).bind _)=_
 rw[agL (x:=xj c b a e g) ⟨cX o.1 (by decide),cX o.2.1 (by decide),cX (n:=12) (by show(a.map _).length<=12;rw[e6];omega) (by decide),cX (n:=12) (by show e.length<=12;omega) (by decide),cX m (by decide),u,cX (n:=32) (by show(b.map _).length<=32;rw[e6];exact m) (by decide),cX (n:=32) (by show(b.map _).length<=32;rw[e6];exact m) (by decide),
  cX (n:=32) (by show(b.map _).length<=32;rw[e6];exact m) (by decide),λl k=>by
   have y:l∈b.map λ_=>dd a.length (0:Int):=k
   obtain⟨r,_,rfl⟩:=gy.1 y;exact cX (n:=12) (by rw[d8];omega) (by decide)⟩]
 rfl
structure Seen (x:aB) (rd:aS) (row row':List Int) (tgs:List Int):Prop where
 len:row'.length=row.length
 tl:tgs.length<=x.aN.length
 Hg:∀(i:Nat) (w:bC) (t:Int),x.aN[i]? =c7 w->x.aw[i]? =c7 t->∃v v',row[i]? =c7 v/\row'[i]? =c7 v'/\((v'=0/\(w.Place∈rd.ai->t∈tgs))\/(v'=v+1/\v'<=rd.dY))
 tag:∀t,t∈tgs->∃(i:Nat) (w:bC),x.aN[i]? =c7 w/\x.aw[i]? =c7 t/\w.Place∈rd.ai
structure Oq (x:aB) (rd:aS) (n:Nat) (row row':List Int) (tgs:List Int):Prop where
 len:row'.length=row.length
 tl:tgs.length<=n
 bG:∀i,n<=i->row'[i]? =row[i]?
 Hg:∀(i:Nat) (w:bC) (t:Int),i<n->x.aN[i]? =c7 w->x.aw[i]? =c7 t->∃v v',row[i]? =c7 v/\row'[i]? =c7 v'/\((v'=0/\(w.Place∈rd.ai->t∈tgs))\/(v'=v+1/\v'<=rd.dY))
 tag:∀t,t∈tgs->∃(i:Nat) (w:bC),x.aN[i]? =c7 w/\x.aw[i]? =c7 t/\w.Place∈rd.ai
abbrev LkS:Type:=List Int×Int×Int×Int×List Int×Int
theorem ZP{c:aB}(F:fw c){f:aS}(P:Fit f.ai)(A:Int){row:List Int}(ab:row.length=c.aN.length)(J:∀v,v∈row->0<=v/\v<=10)(y b B:Int):
 Ok (bO (λh:LkS=>EV LC c A f h.1 h.2.1 h.2.2.1 h.2.2.2.1 h.2.2.2.2.1 h.2.2.2.2.2) (row,y,b,B,([]:List Int),0)) λk=>match k with
  | .inl k=>k=(c.ao.ai,c.ao.af,c.Time,c.aN,c.aw,c.aQ,c.cn,c.cf,c.bp,0,0,0,([]:List Int),43)
  | .inr k=>k.2.1=y/\k.2.2.1=b/\k.2.2.2.1=B/\Seen c f row k.1 k.2.2.2.2:=by
 have ad:=F.2.1;have ac:=F.2.2.1;refine di c.aN.length (λi h=>∃j g,h=(j,y,b,B,g,(i:Int))/\Oq c f i row j g) _ (λi h K x=>?_) (λh x=>?_) _ ⟨row,[],rfl,⟨rfl,by simp,λ_ _=>rfl,λi l o a=>by omega,λo a=>by cases a⟩⟩
 ·obtain⟨j,g,rfl,e⟩:=x;have m:c.aN[i]? =c7 c.aN[i]:=c6 K;have p:c.aw[i]? =c7 (c.aw[i]'(by omega)):=c6 (by omega);have w:row[i]? =c7 (row[i]'(by omega)):=c6 (by omega);generalize c.aN[i]=l at m;generalize c.aw[i]'(by omega)=o at p;have V:=J _ (d0 (show i<row.length by omega));generalize row[i]'(by omega)=v at w V;have E:j[i]? =c7 v:=(e.bG i (f1 _)).trans w;have D:i<j.length:=by rw[e.len];omega
  dsimp only;unfold EV;rw[aC,bn,m,aa,contains_eq P,aa,AD (by omega),aa,bn,E,aa];have next:∀(z:Int) (q:List Int),((z=0/\(l.Place∈f.ai->o∈q))\/(z=v+1/\z<=f.dY))->(∀d,d∈g->d∈q)->q.length<=g.length+1->(∀d,d∈q->d∈g\/(d=o/\l.Place∈f.ai))->Oq c f (i+1) row (j.set i z) q:=by
   intro z q M I Z X;refine⟨by rw[d4,e.len],by have:=e.tl;omega,λu Q=>?_,λu Y W Q r t=>?_,λd N=>?_⟩
   ·rw[f2 (by omega)];exact e.bG u (by omega)
   ·by_cases G:u=i
    ·subst G;rw[m] at r;rw[p] at t;injection r with r
     injection t with t
     subst r t;exact⟨v,z,w,ej D,M⟩
    ·obtain⟨L,O,H,R,s⟩:=e.Hg u Y W (by omega) r t;refine⟨L,O,H,by rw[f2 (λa=>G a.symm)];exact R,?_⟩
     rcases s with⟨s,S⟩ |s
     ·exact .inl ⟨s,λa=>I _ (S a)⟩
     ·exact .inr s
   ·rcases X d N with a |⟨rfl,a⟩
    ·exact e.tag d a
    ·exact⟨i,l,m,p,a⟩
  have T:(bif c5 (l.Place∈f.ai) then c7 (c5 (bits .and .i64 (A.fdiv (2^ (min (i:Int).toNat IntKind.i64.bits))) 1=1)) else c7 false)=c7 (c5 (l.Place∈f.ai/\bits .and .i64 (A.fdiv (2^ (min (i:Int).toNat IntKind.i64.bits))) 1=1)):=fm rfl;rw[T,aa,d1,E,aJ (n:=(i:Int)+1)];simp only[aa];rw[aJ (n:=v+1)];refine aV (λU=>?_) (λU=>?_)
  ·rw[ej D,aa];refine aV (λa=>ae rfl) (λa=>ae ⟨j.set i (v+1),g,rfl,next _ _ (.inr ⟨rfl,by omega⟩) (λ_ a=>a) (by omega) (λd a=>.inl a)⟩)
  ·refine aV (λC=>?_) (λC=>ae ⟨j.set i 0,g,rfl,next _ _ (.inl ⟨rfl,λa=>absurd a C⟩) (λ_ a=>a) (by omega) (λd a=>.inl a)⟩)
   have:=e.tl;rw[bn,p,aa,dm (by decide) (by omega),aa];refine ae ⟨j.set i 0,g++[o],rfl,next _ _ (.inl ⟨rfl,λ_=>by simp⟩) (λd a=>by simp[a]) (by simp) (λd a=>?_)⟩
   rcases d6.1 a with a |a
   ·exact .inl a
   ·exact .inr ⟨by simpa using a,C⟩
 ·obtain⟨j,g,rfl,e⟩:=x;dsimp only;unfold EV;rw[aG];exact ae ⟨rfl,rfl,rfl,e.len,e.tl,λi l o m p=>e.Hg i l o (d2.1 m).1 m p,e.tag⟩
structure cf (x:aB) (k:Nat) (off:Int) (rd:aS) (x':aB) (r:aT):Prop where
 ok:fw x
 eZ:x.aQ[k]? =c7 rd
 QX: -rd.cR<=off/\off<=rd.cR
 aqK:0<=x.Time+off/\x.Time+off<=2147483648
 ex:∃row row' tgs a l,x.bp[k]? =c7 row/\x.cn[k]? =c7 a/\x.cf[k]? =c7 l/\Seen x rd row row' tgs/\r.Number=(a+(if 0<=l/\rd.dX<x.Time -l then 2 else 1)).tmod 65536/\r.Reader=k/\r.Time=x.Time+off/\r.aw=dQ tgs/\
  x'={x with cn:=x.cn.set k r.Number,cf:=x.cf.set k x.Time,bp:=x.bp.set k row'}
theorem ua{a:aB}(e:fw a){g:Nat}{w f:Int}{c:aS}(h:a.aQ[g]? =c7 c)(E: -c.cR<=f/\f<=c.cR)(F:0<=a.Time+f/\a.Time+f<=2147483648){row:List Int}(p:a.bp[g]? =c7 row)(u:List Int->List (List Int))(I:∀r,u r=a.bp.set g r):
 Ok (qw LC a (g:Int) w f c a.aw a.cn a.cf row u (a.ao.ai,a.ao.af,a.Time,a.aN,a.aQ)) λq=>(q.2.2≠0/\q.1=a)\/(q.2.2=0/\cf a g f c q.1 q.2.1):=by
 have y:=(d2.1 h).1;obtain⟨_,s,b,P,k,o,m,i,M,L,_,B,J⟩:=e.2.2.2.2.2.2.2.2.1 g y;rw[h] at k;injection k with k
 subst k;rw[p] at i;injection i with i
 subst i;have N:=e.2.2.2.2.1;have G:=e.1.2.2 c (fC h);unfold qw;rw[bn,m,aa,aa,aJ (n:=a.Time -b)];have C:(bif c5 (0<=b) then c7 (c5 (c.dX<a.Time -b)) else c7 false)=c7 (c5 (0<=b/\c.dX<a.Time -b)):=fm rfl;rw[C,aa];have H:(bif c5 (0<=b/\c.dX<a.Time -b) then c7 (2:Int) else c7 1)=c7 (if 0<=b/\c.dX<a.Time -b then 2 else 1):=by
  by_cases j:0<=b/\c.dX<a.Time -b
  ·rw[aC j,if_pos j]
  ·rw[aG j,if_neg j]
 rw[H,aa,bn,o,aa];have K:(1:Int)<=(if 0<=b/\c.dX<a.Time -b then 2 else 1)/\(if 0<=b/\c.dX<a.Time -b then(2:Int) else 1)<=2:=by split <;> omega
 rw[aJ (n:=s+_),D7 (by omega),aa,aa,d1,o,aa,aa,m,aa,aJ (n:=a.Time+f)];refine aD (ZP e (by have:=e.sm.rp c (fC h);exact f5 this (by decide)) w B (λv z=>by have:=J v z;have:=G.2.2.2.1;omega) _ _ _) λd l=>?_
 cases d with
 |inl d=>
  dsimp only at l;subst l;exact ae (.inl ⟨by simp,rfl⟩)
 |inr d=>
  obtain⟨D,x,A,t⟩:=l;dsimp only[dt];have O:=e.2.1;have:=t.tl;rw[show rC d.2.2.2.2=rl LC d.2.2.2.2 from rfl,zF (cX (n:=12) (by omega) (by decide)),aa];refine ae (.inr ⟨rfl,e,h,E,F,row,d.1,d.2.2.2.2,s,b,p,o,m,t,x,D,A,rfl,?_⟩)
  rw[I,x]
theorem look_ok{x:aB}(f C h:Int)(H:∀r,r∈x.aQ->Fit r.ai)(y:x.bp.length<=3)(N:0<=f)(M:f<max 1 (x.aQ.length:Int))(s:x.bp.length=x.aQ.length):
 Ok (jO LC x f C h) λq=>(q.2.2≠0/\q.1=x)\/(q.2.2=0/\∃(n:Nat) (d:aS),f=(n:Int)/\cf x n h d q.1 q.2.1):=by
 have head:∀(u:aS->Option (aB×aT×Int)),(∀(n:Nat) (d:aS),f=(n:Int)->fw x->x.aQ[n]? =c7 d->(-d.cR<=h/\h<=d.cR)->(0<=x.Time+h/\x.Time+h<=2147483648)->Ok (u d) λq=>(q.2.2≠0/\q.1=x)\/(q.2.2=0/\cf x n h d q.1 q.2.1))->
  Ok (po LC x f C h u) λq=>(q.2.2≠0/\q.1=x)\/(q.2.2=0/\∃(n:Nat) (d:aS),f=(n:Int)/\cf x n h d q.1 q.2.1):=by
  intro u E;unfold po;rw[xf x H,aa,de];refine aV (λa=>?_) (λa=>ae (.inl ⟨by simp,rfl⟩))
  rw[aJ,cF,aa,de];refine aV (λD=>?_) (λa=>ae (.inl ⟨by simp,rfl⟩))
  have w:f.toNat<x.aQ.length:=by omega
  have g:x.aQ[f.toNat]? =c7 x.aQ[f.toNat]:=c6 w;have B:aj x.aQ f=c7 x.aQ[f.toNat]:=qC D.1 (by omega);have A:=a.1.2.2 _ (d0 w);generalize x.aQ[f.toNat]=d at g B A;have L:=a.2.2.2.2.1;have K:=A.2.2.2.2;rw[B,aa,aJ (n:=0 -d.cR),cF,aa]
  by_cases v:0 -d.cR<=h/\h<=d.cR
  rotate_left
  ·rw[decide_eq_false v];exact ae (.inl ⟨by simp,rfl⟩)
  rw[decide_eq_true v,aJ (n:=x.Time+h),cF];simp only[aa,ee,cond_false,de];refine aV (λF=>?_) (λ_=>ae (.inl ⟨by simp,rfl⟩))
  refine gh (E f.toNat d (by omega) a g (by omega) F) λq o=>?_
  rcases o with o |⟨h0,o⟩
  ·exact .inl o
  ·exact .inr ⟨h0,f.toNat,d,by omega,o⟩
 have G:∀{I:Prop},x.aQ.length=0->∀(n:Nat) (d:aS),x.aQ[n]? =c7 d->I:=λJ n d g=>by
  have:=(d2.1 g).1;omega
 unfold jO
 match c:x.bp with
 |[]=>
  dsimp only;have h0:x.aQ.length=0:=by rw[<-s,c];rfl
  rw[aC];exact head _ λn d _ _ g=>G h0 n d g
 |[i]=>
  dsimp only;have h0:x.aQ.length=1:=by rw[<-s,c];rfl
  rw[aC (show f=0 by omega)];refine head _ λn d k a g j b=>?_
  have l:n=0:=by omega
  subst l k;have e:=a.sm.mr;rw[c] at e;unfold uR;rw[c];dsimp only;rw[oc a.sm,bV (e i (by simp)),aa,aa];exact ua a g j b (row:=i) (by rw[c];rfl) (λr=>[r]) (λr=>by rw[c];rfl)
 |[i,m]=>
  dsimp only;have h0:x.aQ.length=2:=by rw[<-s,c];rfl
  by_cases p:f=0
  ·rw[aC p];refine head _ λn d k a g j b=>?_
   have l:n=0:=by omega
   subst l k;have e:=a.sm.mr;rw[c] at e;unfold pO;rw[c];dsimp only;rw[oc a.sm,bV (e i (by simp)),aa,bV (e m (by simp)),aa,aa];exact ua a g j b (row:=i) (by rw[c];rfl) _ (λr=>by rw[c];rfl)
  ·rw[aG p,aC (show f=1 by omega)];refine head _ λn d k a g j b=>?_
   have l:n=1:=by omega
   subst l k;have e:=a.sm.mr;rw[c] at e;unfold pO;rw[c];dsimp only;rw[oc a.sm,bV (e i (by simp)),aa,bV (e m (by simp)),aa,aa];exact ua a g j b (row:=m) (by rw[c];rfl) _ (λr=>by rw[c];rfl)
 |[i,m,t]=>
  dsimp only;have h0:x.aQ.length=3:=by rw[<-s,c];rfl
  by_cases p:f=0
  ·rw[aC p];refine head _ λn d k a g j b=>?_
   have l:n=0:=by omega
   subst l k;have e:=a.sm.mr;rw[c] at e;unfold nM;rw[c];dsimp only;rw[oc a.sm,bV (e i (by simp)),aa,bV (e m (by simp)),aa,bV (e t (by simp)),aa,aa];exact ua a g j b (row:=i) (by rw[c];rfl) _ (λr=>by rw[c];rfl)
  ·rw[aG p]
   by_cases z:f=1
   ·rw[aC z];refine head _ λn d k a g j b=>?_
    have l:n=1:=by omega
    subst l k;have e:=a.sm.mr;rw[c] at e;unfold nM;rw[c];dsimp only;rw[oc a.sm,bV (e i (by simp)),aa,bV (e m (by simp)),aa,bV (e t (by simp)),aa,aa];exact ua a g j b (row:=m) (by rw[c];rfl) _ (λr=>by rw[c];rfl)
   ·rw[aG z,aC (show f=2 by omega)];refine head _ λn d k a g j b=>?_
    have l:n=2:=by omega
    subst l k;have e:=a.sm.mr;rw[c] at e;unfold nM;rw[c];dsimp only;rw[oc a.sm,bV (e i (by simp)),aa,bV (e m (by simp)),aa,bV (e t (by simp)),aa,aa];exact ua a g j b (row:=t) (by rw[c];rfl) _ (λr=>by rw[c];rfl)
 |_::_::_::_::_=>rw[c] at y;simp at y
end Go.X.T
namespace Go.X.T
open Go Go.Aml Go.Top
def fn(a:List Int)(p:Int):Int:=a.getD p.toNat 0
def fD(a:Int):Prop:=(0<=a/\a<=2147483648)\/a=1099511627776
instance (a:Int):Decidable (fD a):=by unfold fD;infer_instance
theorem Q4{a:List Int}{p b:Int}(c:a[p.toNat]? =c7 b):fn a p=b:=pu c
theorem iD{l:List Int}{p:Int}(h0:0<=p)(a:p<(l.length:Int)):l[p.toNat]? =c7 (fn l p):=by
 rw[c6 (by omega),fn,pu (c6 (by omega))]
theorem gH{l:List Int}{p:Int}(h0:0<=p)(a:p<(l.length:Int)):aj l p=c7 (fn l p):=by
 unfold aj;rw[if_pos h0];exact iD h0 a
theorem oR{l:List Int}{p:Int}(h0:0<=p)(a:p<(l.length:Int)):fn l p∈l:=fC (iD h0 a)
theorem wy{l:List Int}{p q x:Int}(h0:0<=p)(b:p<(l.length:Int))(c:0<=q):fn (l.set p.toNat x) q=if q=p then x else fn l q:=by
 unfold fn;rw[dk,f8]
 by_cases a:q=p
 ·subst a;rw[if_pos rfl,if_pos rfl,if_pos (by omega)];rfl
 ·rw[if_neg a,if_neg (by omega),dk]
def rL(m:ak):vG:=λp q a=>∃(i:Nat) (r:aZ) (b:Bool),m.af[i]? =c7 r/\wT m (i:Int) b 6 9 12=a/\0<=a/\p=(if b then r.To else r.an)/\q=(if b then r.an else r.To)
def x8(S:Int->Bool)(b:List Int×Bool)(q a t:Int):List Int×Bool:=if max a t<=2147483648/\max a t<fn b.1 q/\S q=true then(b.1.set q.toNat (max a t),true) else b
def gn(m:ak)(S:Int->Bool)(t:Int)(i:Nat)(r:aZ)(b:Bool)(a:List Int×Bool):List Int×Bool:=
 if 0<=wT m (i:Int) b 6 9 12/\fn a.1 (if b then r.To else r.an)<1099511627776 then x8 S a (if b then r.an else r.To) (fn a.1 (if b then r.To else r.an)+wT m (i:Int) b 6 9 12) t else a
def e9(m:ak)(S:Int->Bool)(t:Int):Nat->Nat->List Int×Bool->List Int×Bool
 |0,_,a=>a
 |b+1,i,a=>e9 m S t b (i+1) (match m.af[i]? with |some r=>gn m S t i r true (gn m S t i r false a) |none=>a)
structure LI (m:ak) (S:Int->Bool) (t:Int) (g aK:List Int):Prop where
 len:aK.length=g.length
 le:∀p,0<=p->p<(g.length:Int)->fn aK p<=fn g p
 sh:∀x,x∈aK->fD x
 low:∀h:Int->Int,pG (rL m) t (λq=>S q=true) h->(∀p,0<=p->p<(g.length:Int)->h p<=fn g p)->∀p,0<=p->p<(g.length:Int)->h p<=fn aK p
def jJ:List Int->Int
 |[]=>0
 |b::a=>b+jJ a
theorem Gn:∀{l:List Int},(∀a,a∈l->fD a)->0<=jJ l
 |[],_=>ec _
 |a::l,b=>by
  have e:=b a (by simp);have f:=Gn (l:=l) λd c=>b d (by simp[c])
  unfold jJ;unfold fD at e;omega
theorem Mk:∀{b:List Int} {i:Nat} {d a:Int},b[i]? =c7 a->jJ (b.set i d)=jJ b -a+d
 |[],i,d,a,c=>by simp at c
 |e::b,0,d,a,c=>by
  have:e=a:=by simpa using c
  subst this;rw[g4];unfold jJ;omega
 |e::b,i+1,d,a,c=>by
  have f:b[i]? =c7 a:=by simpa using c
  rw[hI];unfold jJ;rw[Mk f];omega
section
variable {m : ak} {S : Int → Bool} {t : Int} {g : List Int}
theorem Cn(c:cP m){i:Nat}{r:aZ}(a:m.af[i]? =c7 r)(b:Bool):(0<=(if b then r.To else r.an)/\(if b then r.To else r.an)<(m.ai.length:Int))/\(0<=(if b then r.an else r.To)/\(if b then r.an else r.To)<(m.ai.length:Int)):=by
 have d:=(c.2.2.2 r (fC a)).1;cases b
 ·simp only[ge,if_false];omega
 ·simp only[if_true];omega
theorem om(H:cP m)(P:0<=t)(Q:g.length=m.ai.length){i:Nat}{r:aZ}(B:m.af[i]? =c7 r)(b:Bool){a:List Int×Bool}(c:LI m S t g a.1):
 LI m S t g (gn m S t i r b a).1/\((gn m S t i r b a=a/\pG (λp q k=>p=(if b then r.To else r.an)/\q=(if b then r.an else r.To)/\k=wT m (i:Int) b 6 9 12/\0<=k) t (λq=>S q=true) (fn a.1))\/((gn m S t i r b a).2=true/\jJ (gn m S t i r b a).1<jJ a.1)):=by
 obtain⟨v,n⟩:=Cn H B b;have R:=rF m (i:Int) b (u:=6) (d:=9) (l:=12) (by decide);unfold gn x8;generalize J:(if b then r.To else r.an)=e at v⊢;generalize M:(if b then r.an else r.To)=o at n⊢;have I:=c.len
 by_cases h:0<=wT m (i:Int) b 6 9 12/\fn a.1 e<1099511627776
 ·rw[if_pos h]
  by_cases j:max (fn a.1 e+wT m (i:Int) b 6 9 12) t<=2147483648/\max (fn a.1 e+wT m (i:Int) b 6 9 12) t<fn a.1 o/\S o=true
  ·rw[if_pos j];have C:=λq K=>wy (l:=a.1) (p:=o) (q:=q) (x:=max (fn a.1 e+wT m (i:Int) b 6 9 12) t) n.1 (by omega) K
   have T:=c.sh _ (oR (l:=a.1) v.1 (by omega));refine⟨⟨by rw[d4];exact I,λp f y=>?_,λx s=>?_,λN D L p f y=>?_⟩,.inr ⟨rfl,?_⟩⟩
   ·rw[C p f];have:=c.le p f y
    split
    ·rename_i w;subst w;omega
    ·exact this
   ·rcases e4 s with s |rfl
    ·exact c.sh x s
    ·left;omega
   ·rw[C p f];have A:=c.low N D L
    split
    ·rename_i w;subst w;have O:=A e v.1 (by omega);have:=D e p _ ⟨i,r,b,B,rfl,h.1,J.symm,M.symm⟩ j.2.2 (by unfold T5;omega) (by unfold SM;omega);omega
    ·exact A p f y
   ·rw[Mk (iD n.1 (by omega))];omega
  ·rw[if_neg j];refine⟨c,.inl ⟨rfl,?_⟩⟩
   rintro p q k ⟨rfl,rfl,rfl,h0⟩ F z E;refine Int.not_lt.1 λG=>j ⟨E,G,F⟩
 ·rw[if_neg h];refine⟨c,.inl ⟨rfl,?_⟩⟩
  rintro p q k ⟨rfl,rfl,rfl,h0⟩ F z E;exact absurd ⟨h0,z⟩ h
theorem S5{i:Nat}{r:aZ}{b:Bool}{c:List Int×Bool}(a:c.2=true):(gn m S t i r b c).2=true:=by
 unfold gn x8;generalize (if b then r.To else r.an)=d;generalize (if b then r.an else r.To)=e
 split
 ·split
  ·rfl
  ·exact a
 ·exact a
theorem De:∀{c i:Nat} {b:List Int×Bool},b.2=true->(e9 m S t c i b).2=true
 |0,_,_,a=>a
 |c+1,i,b,a=>by
  unfold e9;refine De ?_
  split
  ·exact S5 (S5 a)
  ·exact a
theorem PJ(v:cP m)(w:0<=t)(x:g.length=m.ai.length):∀(d i:Nat) (a:List Int×Bool),LI m S t g a.1->i+d=m.af.length->
 LI m S t g (e9 m S t d i a).1/\jJ (e9 m S t d i a).1<=jJ a.1/\((e9 m S t d i a).2=true/\jJ (e9 m S t d i a).1<jJ a.1\/e9 m S t d i a=a/\∀e,i<=e->∀r b,m.af[e]? =c7 r->pG (λp q z=>p=(if b then r.To else r.an)/\q=(if b then r.an else r.To)/\z=wT m (e:Int) b 6 9 12/\0<=z) t (λq=>S q=true) (fn a.1))
 |0,i,a,l,G=>⟨l,ec _,.inr ⟨rfl,λe D r b h=>by have:=(d2.1 h).1;omega⟩⟩
 |d+1,i,a,l,G=>by
  have y:i<m.af.length:=by omega
  unfold e9;rw[c6 y];have h:=c6 y;dsimp only;generalize m.af[i]=r at h;obtain⟨F,c⟩:=om v w x h false l;obtain⟨E,j⟩:=om v w x h true F;obtain⟨n,s,f⟩:=PJ v w x d (i+1) _ E (by omega);have I:∀o,o=gn m S t i r true (gn m S t i r false a)->o.2=true->(e9 m S t d (i+1) o).2=true:=λo _ l=>De l
  rcases j with⟨j,u⟩ |⟨j,u⟩
  ·rw[j] at n s f I⊢;rcases c with⟨c,A⟩ |⟨c,A⟩
   ·rw[c] at n s f u⊢;refine⟨n,s,?_⟩
    rcases f with f |⟨f,B⟩
    ·exact .inl f
    ·refine .inr ⟨f,λe D C b k=>?_⟩
     by_cases H:e=i
     ·subst H;rw[h] at k;injection k with k
      subst k;cases b
      ·exact A
      ·exact u
     ·exact B e (by omega) C b k
   ·exact⟨n,by omega,.inl ⟨De c,by omega⟩⟩
  ·have:jJ (gn m S t i r false a).1<=jJ a.1:=by
    rcases c with⟨c,_⟩ |⟨_,c⟩
    ·rw[c];exact ec _
    ·omega
   exact⟨n,by omega,.inl ⟨De j,by omega⟩⟩
end
structure eF (m:ak) (S:Int->Bool) (t:Int) (g out:List Int):Prop extends LI m S t g out where
 cl:pG (rL m) t (λq=>S q=true) (fn out)
theorem afo{aK:List Int}{c:Bool}{p q b t:Int}(h0:0<=q)(d:q<(aK.length:Int)):CB LC aK c p q b t=c7 (x8 (λ_=>true) (aK,c) q b t):=by
 unfold CB KJ;rw[gH h0 d,iD h0 d];simp only[aa];have e:(bif c5 (max b t<=2147483648) then bif c5 (max b t<fn aK q) then c7 true else c7 false else c7 false)=c7 (c5 (max b t<=2147483648/\max b t<fn aK q/\(λ_=>true) q=true)):=by
  refine fm ?_
  by_cases a:max b t<fn aK q
  ·rw[aC a,decide_eq_true ⟨a,rfl⟩]
  ·rw[aG a,decide_eq_false (λf=>a f.1)]
 rw[e,aa]
 by_cases a:max b t<=2147483648/\max b t<fn aK q/\(λ_:Int=>true) q=true
 ·rw[aC a];exact(congrArg c7 (if_pos a)).symm
 ·rw[aG a];exact(congrArg c7 (if_neg a)).symm
theorem afB{aK:List Int}{c:Bool}{p q a t:Int}{S:List Int}(e:Fit S)(h0:0<=q)(d:q<(aK.length:Int)):DD LC aK c p q a t S=c7 (x8 (λh=>c5 (h∈S)) (aK,c) q a t):=by
 unfold DD Gs;rw[gH h0 d,iD h0 d,contains_eq e];simp only[aa];have f:(bif c5 (max a t<=2147483648) then bif c5 (max a t<fn aK q) then c7 (c5 (q∈S)) else c7 false else c7 false)=c7 (c5 (max a t<=2147483648/\max a t<fn aK q/\c5 (q∈S)=true)):=by
  refine fm ?_
  rw[fm rfl]
  congr 1
  apply decide_eq_decide.2
  rw[decide_eq_true_iff]
 rw[f,aa]
 by_cases b:max a t<=2147483648/\max a t<fn aK q/\c5 (q∈S)=true
 ·rw[aC b];exact(congrArg c7 (if_pos b)).symm
 ·rw[aG b];exact(congrArg c7 (if_neg b)).symm
theorem akO{b:Type}{f:b->Int->Option ((b×Int)⊕b)}(g:Bool->b->b)(a:b)(h0:f a 0=c7 (.inl (g false a,1)))(d:f (g false a) 1=c7 (.inl (g true (g false a),2)))(c:∀a,f a 2=c7 (.inr a)):bO (λa:b×Int=>f a.1 a.2) (a,0)=c7 (g true (g false a)):=by
 rw[iO (f:=λa:b×Int=>f a.1 a.2) h0,iO (f:=λa:b×Int=>f a.1 a.2) d];exact fZ (c _)
section
variable {m : ak} {t : Int}
theorem Nb{b a:Int}(c:fD b)(d:a= -1\/(1<=a/\a<=1000099)):c3 c4 (b+a)=b+a:=by
 unfold fD at c;exact aJ
theorem P9(p:cP m){aK:List Int}{e:Bool}(y:aK.length=m.ai.length)(w:∀h,h∈aK->fD h){i:Nat}{r:aZ}(k:m.af[i]? =c7 r)(b:Bool)(a:Int)(v:aj [false,true] a=c7 b)(q:0<=a/\a<2):
 th LC r m (i:Int) t aK e a=c7 (.inl ((gn m (λ_=>true) t i r b (aK,e)).1,(gn m (λ_=>true) t i r b (aK,e)).2,a+1)):=by
 obtain⟨c,f⟩:=Cn p k b;have s:=rF m (i:Int) b (u:=6) (d:=9) (l:=12) (by decide);unfold th;rw[aC q.2,v,aa];have o:(bif b then c7 (r.To,r.an) else c7 (r.an,r.To))=c7 ((if b then r.To else r.an),(if b then r.an else r.To)):=by cases b <;> rfl
 rw[o,aa,Cv,aa];dsimp only;unfold gn;generalize (if b then r.To else r.an)=z at c⊢;generalize (if b then r.an else r.To)=x at f⊢;have j:=w _ (oR (l:=aK) c.1 (by omega));rw[gH (l:=aK) c.1 (by omega),iD (l:=aK) c.1 (by omega)];simp only[aa];rw[fm rfl,aa,wL,Nb j s,afo f.1 (by omega),aa,aJ (n:=a+1)]
 split <;> rfl
theorem MK(q:cP m){aK:List Int}{f:Bool}{S:List Int}(j:Fit S)(z:aK.length=m.ai.length)(x:∀c,c∈aK->fD c){i:Nat}{r:aZ}(o:m.af[i]? =c7 r)(b:Bool)(a:Int)(w:aj [false,true] a=c7 b)(s:0<=a/\a<2):
 tY LC r m (i:Int) t S aK f a=c7 (.inl ((gn m (λc=>c5 (c∈S)) t i r b (aK,f)).1,(gn m (λc=>c5 (c∈S)) t i r b (aK,f)).2,a+1)):=by
 obtain⟨e,h⟩:=Cn q o b;have v:=rF m (i:Int) b (u:=6) (d:=9) (l:=12) (by decide);unfold tY;rw[aC s.2,w,aa];have p:(bif b then c7 (r.To,r.an) else c7 (r.an,r.To))=c7 ((if b then r.To else r.an),(if b then r.an else r.To)):=by cases b <;> rfl
 rw[p,aa,Cv,aa];dsimp only;unfold gn;generalize (if b then r.To else r.an)=A at e⊢;generalize (if b then r.an else r.To)=y at h⊢;have k:=x _ (oR (l:=aK) e.1 (by omega));rw[gH (l:=aK) e.1 (by omega),iD (l:=aK) e.1 (by omega)];simp only[aa];rw[fm rfl,aa,wL,Nb k v,afB j h.1 (by omega),aa,aJ (n:=a+1)]
 split <;> rfl
theorem O4{e:Type}{f:List Int->Bool->Int->Option ((List Int×Bool×Int)⊕e)}{c d b:List Int×Bool}{r:e}(h0:f c.1 c.2 0=c7 (.inl (d.1,d.2,1)))(i:f d.1 d.2 1=c7 (.inl (b.1,b.2,2)))(h:f b.1 b.2 2=c7 (.inr r)):bO (λa:List Int×Bool×Int=>f a.1 a.2.1 a.2.2) (c.1,c.2,0)=c7 r:=by
 rw[iO (f:=λa:List Int×Bool×Int=>f a.1 a.2.1 a.2.2) h0,iO (f:=λa:List Int×Bool×Int=>f a.1 a.2.1 a.2.2) i];exact fZ h
theorem yj{S:Int->Bool}:∀(a i:Nat) (b:List Int×Bool),e9 m S t (a+1) i b=(match m.af[i+a]? with |some r=>gn m S t (i+a) r true (gn m S t (i+a) r false (e9 m S t a i b)) |none=>e9 m S t a i b)
 |0,i,b=>by unfold e9 e9;rfl
 |a+1,i,b=>by
  rw[e9];rw[yj a (i+1)];rw[show i+1+a=i+(a+1) by omega]
  rfl
theorem aeq(h:cP m)(j:0<=t){aK:List Int}(i:aK.length=m.ai.length)(u:∀n,n∈aK->fD n):yf LC aK false m t=c7 ((e9 m (λ_=>true) t m.af.length 0 (aK,false)).1,(e9 m (λ_=>true) t m.af.length 0 (aK,false)).2):=by
 unfold yf;have s:LI m (λ_=>true) t aK aK:=⟨rfl,λ_ _ _=>ec _,u,λA _ z=>z⟩;have C:=h.2.1;have w:∀a,a<=m.af.length->LI m (λ_=>true) t aK (e9 m (λ_=>true) t a 0 (aK,false)).1:=by
  intro a
  induction a with
  |zero=>intro _;exact s
  |succ a y=>
   intro o;have q:a<m.af.length:=by omega
   have e:=c6 q;rw[yj,Nat.zero_add,e];exact(om h j i e true (om h j i e false (y (by omega))).1).1
 have x:=nV (f:=λd:List Int×Bool×Int=>vN LC m t d.1 d.2.1 d.2.2) m.af.length (λa=>((e9 m (λ_=>true) t a 0 (aK,false)).1,(e9 m (λ_=>true) t a 0 (aK,false)).2,(a:Int))) (e9 m (λ_=>true) t m.af.length 0 (aK,false)) (λa o=>?_) (by
  dsimp only;unfold vN;rw[aG])
 ·rw[show LC.loop (λd:List Int×Bool×Int=>vN LC m t d.1 d.2.1 d.2.2) (aK,false,0)=_ from x,aa]
 ·dsimp only;have e:=c6 o;have k:=w a (by omega);have l:=(om h j i e false k).1;have B:=(om h j i e true l).1;unfold vN;rw[aC,bn,e,aa];have p:=O4 (f:=λv b c=>th LC m.af[a] m (a:Int) t v b c) (c:=e9 m (λ_=>true) t a 0 (aK,false)) (r:=gn m (λ_=>true) t a m.af[a] true (gn m (λ_=>true) t a m.af[a] false (e9 m (λ_=>true) t a 0 (aK,false))))
   (P9 h (k.len.trans i) k.sh e false 0 rfl (by decide)) (P9 h (l.len.trans i) l.sh e true 1 rfl (by decide)) (by unfold th;rfl)
  rw[show LC.loop (λd:List Int×Bool×Int=>th LC m.af[a] m (a:Int) t d.1 d.2.1 d.2.2) _=_ from p,aa,aJ,yj,Nat.zero_add,e]
  rfl
theorem UZ(i:cP m)(k:0<=t){S:List Int}(p:Fit S){aK:List Int}(j:aK.length=m.ai.length)(v:∀a,a∈aK->fD a):Bj LC aK false m t S=c7 ((e9 m (λa=>c5 (a∈S)) t m.af.length 0 (aK,false)).1,(e9 m (λa=>c5 (a∈S)) t m.af.length 0 (aK,false)).2):=by
 unfold Bj;have u:LI m (λa=>c5 (a∈S)) t aK aK:=⟨rfl,λ_ _ _=>ec _,v,λB _ A=>A⟩;have D:=i.2.1;have x:∀d,d<=m.af.length->LI m (λa=>c5 (a∈S)) t aK (e9 m (λa=>c5 (a∈S)) t d 0 (aK,false)).1:=by
  intro d
  induction d with
  |zero=>intro _;exact u
  |succ d z=>
   intro o;have s:d<m.af.length:=by omega
   have h:=c6 s;rw[yj,Nat.zero_add,h];exact(om i k j h true (om i k j h false (z (by omega))).1).1
 have y:=nV (f:=λe:List Int×Bool×Int=>xS LC m t S e.1 e.2.1 e.2.2) m.af.length (λd=>((e9 m (λa=>c5 (a∈S)) t d 0 (aK,false)).1,(e9 m (λa=>c5 (a∈S)) t d 0 (aK,false)).2,(d:Int))) (e9 m (λa=>c5 (a∈S)) t m.af.length 0 (aK,false)) (λd o=>?_) (by
  dsimp only;unfold xS;rw[aG])
 ·rw[show LC.loop (λe:List Int×Bool×Int=>xS LC m t S e.1 e.2.1 e.2.2) (aK,false,0)=_ from y,aa]
 ·dsimp only;have h:=c6 o;have l:=x d (by omega);have n:=(om i k j h false l).1;have C:=(om i k j h true n).1;unfold xS;rw[aC,bn,h,aa];have q:=O4 (f:=λw b c=>tY LC m.af[d] m (d:Int) t S w b c) (c:=e9 m (λa=>c5 (a∈S)) t d 0 (aK,false)) (r:=gn m (λa=>c5 (a∈S)) t d m.af[d] true (gn m (λa=>c5 (a∈S)) t d m.af[d] false (e9 m (λa=>c5 (a∈S)) t d 0 (aK,false))))
   (MK i p (l.len.trans j) l.sh h false 0 rfl (by decide)) (MK i p (n.len.trans j) n.sh h true 1 rfl (by decide)) (by unfold tY;rfl)
  rw[show LC.loop (λe:List Int×Bool×Int=>tY LC m.af[d] m (d:Int) t S e.1 e.2.1 e.2.2) _=_ from q,aa,aJ,yj,Nat.zero_add,h]
  rfl
theorem TT(v:cP m)(y:0<=t){S:Int->Bool}{g:List Int}(l:g.length=m.ai.length)(u:∀h,h∈g->fD h){f:List Int×Bool->Option ((List Int×Bool)⊕List Int)}
 (x:∀aK,aK.length=m.ai.length->(∀h,h∈aK->fD h)->f (aK,true)=c7 (.inl (e9 m S t m.af.length 0 (aK,false)))) (A:∀aK,f (aK,false)=c7 (.inr aK)):Ok (bO f (g,true)) (eF m S t g):=by
 refine oa (λc=>LI m S t g c.1/\(c.2=false->pG (rL m) t (λq=>S q=true) (fn c.1))) (λc=>2*(jJ c.1).toNat+(if c.2 then 1 else 0)) _ (λc a=>?_) _ ⟨⟨rfl,λ_ _ _=>ec _,u,λe _ G=>G⟩,λe=>by cases e⟩
 obtain⟨aK,F⟩:=c;obtain⟨a,s⟩:=a;cases F with
 |false=>exact ok_eq (A aK) ⟨a,s rfl⟩
 |true=>
  refine ok_eq (x aK (a.len.trans l) a.sh) ?_
  obtain⟨k,J,d⟩:=PJ v y l m.af.length 0 (aK,false) a (by omega);have I:=Gn a.sh;have H:=Gn k.sh;rcases d with⟨d,j⟩ |⟨d,j⟩
  ·refine⟨⟨k,λe=>by rw[d] at e;cases e⟩,?_⟩
   dsimp only at j⊢;rw[d];simp only[if_true];omega
  ·rw[d];refine⟨⟨a,λ_=>?_⟩,by simp⟩
   rintro p q D ⟨i,r,b,z,w,h0,C,n⟩ E o B;exact j i (Nat.zero_le _) r b z p q D ⟨C,n,w.symm,h0⟩ E o B
theorem KU(a:cP m)(c:0<=t){g:List Int}(j:g.length=m.ai.length)(k:∀d,d∈g->fD d):Ok (ze LC m g t) (eF m (λ_=>true) t g):=by
 unfold ze;have:=a.1;rw[bV (cX (n:=64) (by omega) (by decide)),aa];refine aD (TT a c j k (f:=λb=>Gt LC m t b.1 b.2) (λaK h i=>?_) (λaK=>rfl)) λl e=>ae e
 unfold Gt;rw[aeq a c h i]
 rfl
theorem J1(b:cP m)(e:0<=t){g:List Int}(c:g.length=m.ai.length)(d:∀a,a∈g->fD a):Ok (sI LC m g t) (eF m (λ_=>true) t g):=KU b e c d
theorem akK(b:cP m)(d:0<=t){S g:List Int}(e:Fit S)(k:g.length=m.ai.length)(l:∀a,a∈g->fD a):Ok (Ay LC m g t S) (eF m (λa=>c5 (a∈S)) t g):=by
 unfold Ay;have:=b.1;rw[bV (cX (n:=64) (by omega) (by decide)),aa];refine aD (TT b d k l (f:=λc=>HZ LC m t S c.1 c.2) (λaK i j=>?_) (λaK=>rfl)) λo h=>ae h
 unfold HZ;rw[UZ b d e i j]
 rfl
end
theorem Fy{b:Bool}{c:Option Bool}{a:Bool}(d:c=c7 a):(bif b then c7 true else c)=c7 (b||a):=by subst d;cases b <;> rfl
theorem M5{b:Bool}{c:Option Bool}{a:Bool}(d:c=c7 a):(bif (!b) then c7 true else c)=c7 (!b||a):=by subst d;cases b <;> rfl
def Shaped(c:ak)(a:aM):Prop:=a.an.length=c.ai.length/\(0<=a.Time/\a.Time<=2147483648)/\∀b,b∈a.an->fD b
instance (b:ak) (a:aM):Decidable (Shaped b a):=by unfold Shaped;infer_instance
theorem Pk{c:ak}{b:aM}(k:Fit c.ai):ur LC c b=c7 (c5 (Shaped c b)):=by
 unfold ur
 by_cases h:(b.an.length:Int)=(c.ai.length:Int)
 ·have m:Fit b.an:=by show b.an.length<=_;have:c.ai.length<=_:=k;omega
  have j:zZ LC b.an=c7 (b.an.any λi=>!c5 (fD i)):=by
   unfold zZ GG;have:=fF (l:=b.an) (P:=λd=>DR LC d) (p:=λi=>!c5 (fD i)) (f:=λe=>GO LC b.an e) m (λd o=>by
    unfold DR;rw[cF,aa]
    by_cases a:d=1099511627776
    ·rw[aG (λn=>n a),decide_eq_true (show fD d from .inr a)];rfl
    ·rw[aC a]
     congr 2
     apply decide_eq_decide.2
     exact⟨λg=>.inl g,λg=>g.resolve_right a⟩) (λe=>rfl)
   rw[show(LC.loop (λe=>GO LC b.an e) 0).bind _=_ from this,aa,gm]
  rw[aC h,cF,aa,j,aa,ot,fm rfl]
  congr 1
  apply decide_eq_decide.2
  exact⟨λa=>⟨by omega,a⟩,λa=>a.2⟩
 ·rw[aG h,decide_eq_false (λa=>h (by have:=a.1;omega))]
theorem GV{a b:List Int}(m:Fit a):qG LC a b=c7 (c5 (a=b)):=by
 have n:a.length<=4611686018427387904:=m;unfold qG
 by_cases d:(a.length:Int)=(b.length:Int)
 ·rw[aG (λg=>g d)];have l:bO (λf=>yU LC a b f) 0=c7 (if ∀i,i<a.length->(λi:Nat=>c5 (a.getD i 0≠b.getD i 0)) i=false then .inr () else .inl ()):=by
   refine oD _ _ () (λi j=>?_) ?_
   ·unfold yU;rw[aC,uu j,aa,uu (by omega),aa,aJ]
    by_cases c:a.getD i 0≠b.getD i 0
    ·rw[aC c];simp only[decide_eq_true c,cond_true]
    ·rw[aG c];simp only[decide_eq_false c,cond_false]
   ·unfold yU;rw[aG]
  rw[show LC.loop (λf=>yU LC a b f) 0=_ from l,aa]
  by_cases e:a=b
  ·subst e;rw[if_pos (λi j=>decide_eq_false (λg=>g rfl)),decide_eq_true rfl];rfl
  ·rw[if_neg (λh=>e ?_),decide_eq_false e];rfl;apply List.ext_getElem (by omega)
   intro i k c;have:=of_decide_eq_false (h i k);rw[dv,pu (c6 k),pu (c6 c)] at this;exact this
 ·rw[aC d,decide_eq_false (λh=>d (by rw[h]))]
theorem uw{c:vG}{a:Int}{g:Int->Int}(d:pG c a (λq=>(λ_:Int=>true) q=true) g):eN c a g:=λp q h e _ b f=>d p q h e rfl b f
theorem EF{d:vG}{c a:Int}{g:Int->Int}(e:eN d c g)(j:c<=a):eN d a g:=λp q i f b h k=>by
 have:=e p q i f b h (by omega);omega
def jK(b:ak)(a:aM):Prop:=Shaped b a/\eN (rL b) a.Time (fn a.an)
theorem OI(d:ak)(f:aM):Ok (n7 LC d f) λb=>b=true->cP d/\jK d f:=by
 unfold n7;rw[ko,aa];refine aV (λe=>?_) (λ_=>ae λa=>by cases a)
 have:=e.1;rw[Pk (by show d.ai.length<=_;omega),aa];refine aV (λc=>?_) (λ_=>ae λa=>by cases a)
 refine aD (KU e c.2.1.1 c.1 c.2.2) λout g=>?_
 rw[GV (by show out.length<=_;rw[g.len,c.1];omega),aa];refine ae λa=>⟨e,c,?_⟩
 rw[<-of_decide_eq_true a];exact uw g.cl
theorem aiV{n:Int}(h0:0<=n)(j:n<=1000):vk LC 1 n=c7 (0,n):=by
 have h:∀a:Nat,a<=1000->vk LC 1 (a:Int)=c7 (0,(a:Int)):=by
  intro a i;have g:iN .u64 1 32=c7 0:=by rfl
  have b:iN .u64 (a:Int) 32=c7 0:=by
   rw[AD (by omega),show(2:Int)^ (min (32:Int).toNat g0.bits)=4294967296 from rfl,g7 _ (by omega),Int.ediv_eq_zero_of_lt (by omega) (by omega)]
  have e:bits .and .u64 (a:Int) 4294967295=(a:Int):=by
   show g0.wrap ((hS 64 (a:Int) &&& hS 64 ((4294967295:Nat):Int)).toNat:Int)=_
   rw[BitVec.toNat_and,g8,g8,gt,gt,hu (show a<2^64 by omega),show(4294967295:Nat)%2^64=2^32 -1 from rfl,Nat.and_two_pow_sub_one_eq_mod,hu (by omega),mB (by omega) (by omega)]
  have f:bits .and .u64 1 4294967295=1:=by rfl
  have c:iN .u64 0 32=c7 0:=by rfl
  have d:bits .and .u64 0 4294967295=0:=by rfl
  have z:g0.wrap 0=0:=by rfl
  unfold vk;rw[g,aa,b,aa,e,f];simp only[Int.one_mul,Int.mul_zero,Int.zero_mul,Int.zero_add,Int.mul_one,z];rw[mB (n:=(a:Int)) (by omega) (by omega),b,aa,z,c,aa,d,Int.zero_add,z,c,aa]
  rfl
 obtain⟨a,rfl⟩:=gv h0;exact h a (by omega)
theorem aaT{v:Int}(c:Nat)(w:c<=1000):∀(g:Nat) (a:Nat) (b:List Int),1<=a->c -a<=g->b.length=c->(∀i,i<a->i<c->b[i]? =c7 v)->bO (λl:List Int×Int=>pZ LC l.1 l.2) (b,(a:Int))=c7 (dd c v):=by
 intro g
 induction g with
 |zero=>
  intro a b p q k f;refine fZ ?_
  dsimp only;unfold pZ;rw[aG]
  congr 2
  apply hM
  intro i
  by_cases d:i<c
  ·rw[f i (by omega) d,f4,if_pos d]
  ·rw[g6 (by omega),f4,if_neg d]
 |succ g t=>
  intro a b p q k f
  by_cases x:a<c
  ·let e:=(b.drop (0:Int).toNat).take ((a:Int).toNat - (0:Int).toNat)
   have j:e=b.take a:=by show(b.drop 0).take (a -0)=_;rw[h5,Nat.sub_zero]
   have r:e.length=a:=by rw[j,d9];omega
   have m:X.mg e (a:Int).toNat ((b.length:Int).toNat - (a:Int).toNat) b=b.take a++((b.take a).take (c -a)++b.drop (a+((b.take a).take (c -a)).length)):=by
    unfold X.mg;rw[j,d1,d1,k]
   rw[iO (a':=(X.mg e (a:Int).toNat ((b.length:Int).toNat - (a:Int).toNat) b,((a+min (c -a) a:Nat):Int)))]
   ·refine t (a+min (c -a) a) _ (by omega) (by omega) ?_ (λi d o=>?_)
    ·rw[m];simp only[dT,d9,ey];omega
    ·rw[m];have h:(b.take a).length=a:=by rw[d9];omega
     have u:((b.take a).take (c -a)).length=min (c -a) a:=by rw[d9,h]
     by_cases n:i<a
     ·rw[ez (by omega),hK,if_pos n];exact f i n o
     ·rw[ea (by omega),h,ez (by omega),hK,if_pos (by omega),hK,if_pos (by omega)];exact f _ (by omega) (by omega)
   ·dsimp only;unfold pZ;rw[aC,l8 (by omega) (by omega) (by omega),aa,l8 (by omega) (by omega) (by omega),aa];have s:c3 c4 ((a:Int)+((min ((b.length:Int).toNat - (a:Int).toNat) e.length:Nat):Int))=((a+min (c -a) a:Nat):Int):=by
     rw[r,aJ];omega
    show c7 (hP (_,c3 c4 ((a:Int)+((min ((b.length:Int).toNat - (a:Int).toNat) e.length:Nat):Int))))=_
    rw[s]
  ·refine fZ ?_
   dsimp only;unfold pZ;rw[aG]
   congr 2
   apply hM
   intro i
   by_cases d:i<c
   ·rw[f i (by omega) d,f4,if_pos d]
   ·rw[g6 (by omega),f4,if_neg d]
theorem Oa{v:Int}{n:Nat}(g:n<=1000):EC LC [v] (n:Int)=c7 (dd n v):=by
 unfold EC DJ;have e:g0.wrap (([v].length:Nat):Int)=1:=by simp only[e5,fd];rfl
 rw[aG,e,mB (n:=(n:Int)) (by omega) (by omega),aiV (by omega) (by omega),aa,aa,ew rfl,aa,aG (by dsimp only;omega)];dsimp only;rw[aJ,nS (by omega) (by omega),aa,d1]
 by_cases h0:n=0
 ·subst h0;have b:bO (λa:List Int×Int=>pZ LC a.1 a.2) ([],0)=c7 []:=fZ (by dsimp only;unfold pZ;rw[aG (by simp)]);exact(dL (m:=LC.loop (λa:List Int×Int=>pZ LC a.1 a.2) ([],0)) b)
 ·have f:X.mg [v] 0 (dd n (0:Int)).length (dd n (0:Int))=v::dd (n -1) 0:=by
   obtain⟨c,rfl⟩:∃c,n=c+1:=⟨n -1,by omega⟩;unfold X.mg;rw[d8];simp[List.replicate_succ]
  rw[f,d8];have d:((min n ([v]:List Int).length:Nat):Int)=((1:Nat):Int):=by simp only[e5,fd];omega
  rw[d];have b:=aaT (v:=v) n g n 1 (v::dd (n -1) 0) (f1 _) (by omega) (by simp only[e5,d8];omega) (λi h _=>by
   have:i=0:=by omega
   subst this;rfl)
  exact dL b
theorem B6{v:Int}{a:Nat}(b:a<=1000):sJ LC [v] (a:Int)=c7 (dd a v):=Oa b
theorem QL{a:ak}(b:cP a):yF LC a=c7 (dd a.ai.length 1099511627776):=by
 have:=b.1;unfold yF;rw[B6 (by omega),aa]
theorem aoN{a:Nat}{v p:Int}(h0:0<=p)(b:p<(a:Int)):fn (dd a v) p=v:=Q4 (by rw[f4,if_pos (by omega)])
theorem aaW{a:ak}(c:cP a){p t:Int}(b:0<=p/\p<(a.ai.length:Int))(d:0<=t/\t<=2147483648):Ok (Cr LC a p t) λq=>q.2=0/\q.1.Time=t/\jK a q.1/\fn q.1.an p<=t:=by
 have:=c.1;unfold Cr;rw[ko,aa,de,aC c,aJ,cF,aa,de,aC,cF,aa,de,aC d,QL c,aa];have f:(dd a.ai.length (1099511627776:Int)).length=a.ai.length:=d8;rw[gH b.1 (by omega),aa,iD b.1 (by omega),aa];have i:∀h,h∈(dd a.ai.length (1099511627776:Int)).set p.toNat t->fD h:=λh g=>by
  rcases e4 g with g |rfl
  ·exact .inr (eo g)
  ·exact .inl d
 refine aD (J1 c d.1 (by rw[d4];exact f) i) λout e=>ae ⟨rfl,rfl,⟨⟨?_,d,e.sh⟩,uw e.cl⟩,?_⟩
 ·show out.length=_
  rw[e.len,d4];exact f
 ·have:=e.le p b.1 (by rw[d4,f];exact b.2);rw[wy b.1 (by omega) b.1,if_pos rfl] at this;exact this
def x4(a:ak)(b:List Int):Prop:=cj 0 ((a.ai.length:Int) -1) b
instance (a:ak) (b:List Int):Decidable (x4 a b):=by unfold x4;infer_instance
theorem x4.fit{m:ak}(c:cP m){a:List Int}(h:x4 m a):a.length<=64:=by
 have:=cj.len h (by omega);have:=c.1;omega
theorem ME(c:ak)(f:aM)(g:List Int)(e b:Int)(m:Fit g)(j:Fit c.ai):Ok (vY LC c f g e b) λd=>(d=0\/d=6\/d=8)/\(d=0->cP c/\jK c f/\x4 c g/\(0<=e/\e<=2147483648)/\(0<=b/\b<=2147483648)/\e<=b):=by
 have q:c.ai.length<=4611686018427387904:=j;unfold vY;obtain⟨v,l,i⟩:=OI c f;rw[l,aa,aJ (n:=(c.ai.length:Int) -1),kw _ _ _ m,aa,lA,ew rfl,M5 rfl,aa];refine dy (λa=>ae ⟨.inr (.inl rfl),λa=>by cases a⟩) (λa=>?_)
 rw[g9] at a;have h:=i (by simpa using a.1);have k:=of_decide_eq_false a.2;rw[cF,aa,cF,aa,fh (fh rfl),aa];refine aV (λa=>ae ⟨.inr (.inr rfl),λa=>by cases a⟩) (λp=>ae ⟨.inl rfl,λ_=>⟨h.1,h.2,d3 λo=>k (.inr o),?_⟩⟩)
 omega
structure lG (m:ak) (w:aM) (l:List Int) (a b:Int) (x:aM):Prop where
 fN:cP m
 bG:jK m w
 new:jK m x
 time:x.Time=b
 ab:0<=a/\a<=b/\b<=2147483648
 from_:w.Time<=a
 cl:eN (rL m) a (fn x.an)
 low:∀p,p∈l->fn w.an p<=b->fn x.an p<=fn w.an p
 NK:∀p,0<=p->p<(m.ai.length:Int)->fn w.an p<=fn x.an p
theorem afE(f:ak)(a:aM)(l:List Int)(C b:Int)(Y:Fit l)(ag:Fit f.ai):Ok (yX LC f a l C b) λq=>(q.2=0/\lG f a l C b q.1)\/(q.2=43/\q.1=a/\a.Time<=C/\∀p,p∈l->b<fn a.an p)\/((q.2=6\/q.2=8\/q.2=42)/\q.1=a):=by
 unfold yX;refine aD (ME f a l C b Y ag) λt L=>?_
 refine aV (λA=>ae (.inr (.inr ⟨?_,rfl⟩))) (λA=>?_)
 ·rcases L.1 with c |c |c
  ·exact absurd c A
  ·exact .inl c
  ·exact .inr (.inl c)
 obtain⟨B,w,h,P,M,N⟩:=L.2 (dv.1 A);refine aV (λA=>ae (.inr (.inr ⟨.inr (.inr rfl),rfl⟩))) (λc=>?_)
 rw[QL B,aa];have aj:=w.1.1;have ai:=h.fit B;have S:(dd f.ai.length (1099511627776:Int)).length=f.ai.length:=d8;have W:∀p,0<=p->p<(f.ai.length:Int)->fn a.an p<=1099511627776:=λp h0 c=>by
  have:=w.1.2.2 _ (oR (l:=a.an) h0 (by omega));unfold fD at this;omega
 have H:∀p,p∈l->0<=p/\p<(f.ai.length:Int):=λp X=>by have:=h.mem X;omega
 have ab:Ok (bO (λe:List Int×Bool×Int=>Ds LC l a b e.1 e.2.1 e.2.2) (dd f.ai.length (1099511627776:Int),false,0)) λs=>
  s.1.length=f.ai.length/\(∀x,x∈s.1->fD x)/\(∀p,0<=p->p<(f.ai.length:Int)->fn a.an p<=fn s.1 p)/\(∀p,p∈l->fn a.an p<=b->fn s.1 p<=fn a.an p/\s.2=true):=by
  refine di l.length (λi e=>e.2.2=(i:Int)/\e.1.length=f.ai.length/\(∀x,x∈e.1->fD x)/\(∀p,0<=p->p<(f.ai.length:Int)->fn a.an p<=fn e.1 p)/\(∀g p,g<i->l[g]? =c7 p->fn a.an p<=b->fn e.1 p<=fn a.an p/\e.2.1=true)) _ (λi e K F=>?_) (λe F=>?_) _ ⟨rfl,S,λx y=>.inr (eo y),λp h0 c=>by rw[aoN h0 c];exact W p h0 c,λg p v=>by omega⟩
  ·obtain⟨aK,Z,ah⟩:=e;obtain⟨rfl,j,o,m,k⟩:=F;dsimp only at j o m k⊢;have z:l[i]? =c7 l[i]:=c6 K;have r:=H _ (d0 K);generalize l[i]=p at z r;unfold Ds;rw[aC,bn,z,aa,gH r.1 (by omega),aa,aa,gH (l:=aK) r.1 (by omega),aa,iD (l:=aK) r.1 (by omega),aa];have Q:=λq d=>wy (l:=aK) (p:=p) (q:=q) (x:=fn a.an p) r.1 (by omega) d
   by_cases J:fn a.an p<=b
   ·rw[aC J,aa,aJ];refine ae ⟨rfl,by rw[d4];exact j,λx y=>?_,λq h0 c=>?_,λg q v d D=>⟨?_,rfl⟩⟩
    ·rcases e4 y with y |rfl
     ·exact o x y
     ·exact w.1.2.2 _ (oR (l:=a.an) r.1 (by omega))
    ·dsimp only;rw[Q q h0]
     split
     ·rename_i t;rw[t];exact ec _
     ·exact m q h0 c
    ·dsimp only;have ad:=H q (fC d);rw[Q q ad.1]
     split
     ·rename_i t;rw[t];exact ec _
     ·rename_i t
      by_cases E:g=i
      ·subst E;rw[z] at d;injection d with d
       exact absurd d.symm t
      ·exact(k g q (by omega) d D).1
   ·rw[aG J,aa,aJ];refine ae ⟨rfl,j,o,m,λg q v d D=>?_⟩
    by_cases E:g=i
    ·subst E;rw[z] at d;injection d with d
     subst d;exact absurd D J
    ·exact k g q (by omega) d D
  ·obtain⟨aK,Z,ah⟩:=e;obtain⟨rfl,j,o,m,k⟩:=F;dsimp only at j o m k⊢;unfold Ds;rw[aG];refine ae ⟨j,o,m,λp h I=>?_⟩
   obtain⟨g,v,rfl⟩:=d7.1 h;exact k g _ v (c6 v) I
 refine aD ab λs U=>?_
 obtain⟨u,T,ac,R⟩:=U;rw[de];refine dy (λG=>?_) (λG=>ae (.inr (.inl ⟨rfl,rfl,by omega,λp h=>?_⟩)))
 ·refine aD (J1 B P.1 u T) λout n=>ae (.inl ⟨rfl,B,w,⟨⟨n.len.trans u,M,n.sh⟩,EF (uw n.cl) N⟩,rfl,⟨P.1,N,M.2⟩,by omega,uw n.cl,λp h I=>?_,λp h0 c=>?_⟩)
  ·have O:=H p h;exact Int.le_trans (n.le p O.1 (by rw[u];exact O.2)) (R p h I).1
  ·refine n.low (fn a.an) (λp q af j _ m k=>?_) (λp h0 c=>ac p h0 (by rw[u] at c;exact c)) p h0 (by rw[u];exact c)
   exact EF w.2 (by omega) p q af j trivial m k
 ·refine Int.not_le.1 λV=>?_
  rw[(R p h V).2] at G;cases G
structure og (m:ak) (w:aM) (l:List Int) (a b blind:Int) (x:aM) (g1:List Int):Prop where
 fN:cP m
 bG:jK m w
 new:jK m x
 time:x.Time=b
 ab:0<=a/\a<=b/\b<=2147483648
 from_:w.Time<=b
 bl:0<=blind/\blind<b -max a w.Time
 off:∀p,0<=p->p<(m.ai.length:Int)->p∉l->fn g1 p<=fn w.an p
 c1:pG (rL m) (b -blind) (λq=>q∈l) (fn g1)
 le:∀p,0<=p->p<(m.ai.length:Int)->fn x.an p<=fn g1 p
 NK:∀p,0<=p->p<(m.ai.length:Int)->fn w.an p<=fn x.an p
theorem aaS(d:ak)(c:aM)(l:List Int)(w b G:Int)(J:Fit l)(W:Fit d.ai):Ok (wV LC d c l w b G) λq=>(q.2=0/\((∃z,og d c l w b G q.1 z)\/q.1=c))\/((q.2=6\/q.2=8\/q.2=42)/\q.1=c):=by
 unfold wV;refine aD (ME d c l w b J W) λA H=>?_
 refine aV (λD=>ae (.inr ⟨?_,rfl⟩)) (λD=>?_)
 ·rcases H.1 with a |a |a
  ·exact absurd a D
  ·exact .inl a
  ·exact .inr (.inl a)
 obtain⟨t,o,y,V,E,R⟩:=H.2 (dv.1 D);rw[cF,aa,de];refine aV (λY=>?_) (λ_=>ae (.inr ⟨.inr (.inl rfl),rfl⟩))
 refine aV (λ_=>ae (.inr ⟨.inr (.inr rfl),rfl⟩)) (λa=>?_)
 have ag:=o.1.2.1;rw[aJ (n:=b -max w c.Time)];refine aV (λ_=>ae (.inl ⟨rfl,.inr rfl⟩)) (λaf=>?_)
 have Z:=o.1.1;have ad:=t.1;have ac:=y.fit t;have S:∀p,p∈l->0<=p/\p<(d.ai.length:Int):=λp P=>by have:=y.mem P;omega
 have O:∀p,0<=p->p<(d.ai.length:Int)->fn c.an p<=1099511627776:=λp h0 a=>by
  have:=o.1.2.2 _ (oR (l:=c.an) h0 (by omega));unfold fD at this;omega
 rw[bV (cX (n:=64) (by omega) (by decide)),aa];have T:Ok (bO (λe:List Int×Int=>CO LC l e.1 e.2) (c.an,0)) λu=>
  u.length=d.ai.length/\(∀x,x∈u->fD x)/\(∀p,0<=p->p<(d.ai.length:Int)->fn c.an p<=fn u p)/\(∀p,0<=p->p<(d.ai.length:Int)->p∉l->fn u p=fn c.an p):=by
  refine di l.length (λi e=>e.2=(i:Int)/\e.1.length=d.ai.length/\(∀x,x∈e.1->fD x)/\(∀p,0<=p->p<(d.ai.length:Int)->fn c.an p<=fn e.1 p)/\(∀p,0<=p->p<(d.ai.length:Int)->p∉l->fn e.1 p=fn c.an p)) _ (λi e B C=>?_) (λe C=>?_) _ ⟨rfl,Z,o.1.2.2,λp h0 a=>ec _,λp _ _ _=>rfl⟩
  ·obtain⟨aK,ab⟩:=e;obtain⟨rfl,f,m,h,g⟩:=C;dsimp only at f m h g⊢;have I:l[i]? =c7 l[i]:=c6 B;have r:=S _ (d0 B);have L:=d0 B;generalize l[i]=p at I r L;unfold CO;rw[aC,bn,I,aa,gH (l:=aK) r.1 (by omega),aa,iD (l:=aK) r.1 (by omega),aa,aJ];have K:=λq v=>wy (l:=aK) (p:=p) (q:=q) (x:=1099511627776) r.1 (by omega) v
   refine ae ⟨rfl,by rw[d4];exact f,λx F=>?_,λq h0 a=>?_,λq h0 a v=>?_⟩
   ·rcases e4 F with F |rfl
    ·exact m x F
    ·exact .inr rfl
   ·dsimp only;rw[K q h0]
    split
    ·rename_i A;rw[A];exact O p r.1 r.2
    ·exact h q h0 a
   ·dsimp only;rw[K q h0,if_neg (λA=>v (by rw[A];exact L))];exact g q h0 a v
  ·obtain⟨aK,ab⟩:=e;obtain⟨rfl,f,m,h,g⟩:=C;dsimp only at f m h g⊢;unfold CO;rw[aG];exact ae ⟨f,m,h,g⟩
 refine aD T λu N=>?_
 obtain⟨j,M,U,X⟩:=N;rw[aJ (n:=b -G)];refine aD (akK t (by omega) J j M) λz k=>?_
 refine aD (J1 t E.1 (k.len.trans j) k.sh) λout s=>ae (.inl ⟨rfl,.inl ⟨z,?_⟩⟩)
 have Q:∀p,0<=p->p<(d.ai.length:Int)->fn c.an p<=fn z p:=λp h0 a=>
  k.low (fn c.an) (λp q n f _ h g=>EF o.2 (by omega) p q n f trivial h g) (λp h0 a=>U p h0 (by rw[j] at a;exact a)) p h0 (by rw[j];exact a)
 refine⟨t,o,⟨⟨s.len.trans (k.len.trans j),E,s.sh⟩,uw s.cl⟩,rfl,⟨V.1,R,E.2⟩,by omega,⟨Y.1,by omega⟩,λp h0 a y=>?_,λp q n f m h g=>k.cl p q n f (decide_eq_true m) h g,λp h0 a=>s.le p h0 (by rw[k.len,j];exact a),λp h0 a=>?_⟩
 ·rw[<-X p h0 a y];exact k.le p h0 (by rw[j];exact a)
 ·exact s.low (fn c.an) (λp q n f _ h g=>EF o.2 (by omega) p q n f trivial h g) (λp h0 a=>Q p h0 (by rw[k.len,j] at a;exact a)) p h0 (by rw[k.len,j];exact a)
theorem acF{a:aM}{b:Int}(c:Sm a.an):xc LC a b=c7 (if b<a.Time\/2147483648<b then(a,8) else(⟨b,a.an⟩,0)):=by
 unfold xc;rw[ew rfl,aa,bV c,aa,wL]
 split <;> rfl
structure mP (m:ak) (w:aM) (t:Int) (x:aM):Prop where
 fN:cP m
 bG:Shaped m w
 new:jK m x
 time:x.Time=t
 wt:w.Time<=t/\t<=2147483648
 le:∀p,0<=p->p<(m.ai.length:Int)->fn x.an p<=fn w.an p
 NK:∀h:Int->Int,eN (rL m) t h->(∀p,0<=p->p<(m.ai.length:Int)->h p<=fn w.an p)->∀p,0<=p->p<(m.ai.length:Int)->h p<=fn x.an p
theorem Pd(c:ak)(e:aM)(f:Int)(o:Fit c.ai):Ok (xT LC c e f) λq=>(q.2=0/\mP c e f q.1)\/((q.2=6\/q.2=8)/\q.1=e):=by
 unfold xT;rw[ko,aa,Pk o,aa,lA,fh rfl,aa];refine aV (λ_=>ae (.inr ⟨.inl rfl,rfl⟩)) (λa=>?_)
 have h:cP c:=d3 λg=>a (.inl g)
 have b:Shaped c e:=d3 λg=>a (.inr g)
 rw[ew rfl,aa];refine aV (λ_=>ae (.inr ⟨.inr rfl,rfl⟩)) (λs=>?_)
 have t:=b.2.1;refine aD (KU h (by omega) b.1 b.2.2) λout d=>ae (.inl ⟨rfl,h,b,⟨⟨d.len.trans b.1,⟨by show 0<=f;omega,by show f<=_;omega⟩,d.sh⟩,uw d.cl⟩,rfl,⟨by omega,by omega⟩,λp h0 a=>d.le p h0 (by rw[b.1];exact a),λi n m p h0 a=>?_⟩)
 exact d.low i (λp q r j _ k l=>n p q r j trivial k l) (λp h0 a=>m p h0 (by rw[b.1] at a;exact a)) p h0 (by rw[b.1];exact a)
theorem acr(f:List Int)(a:ak)(c b:Int):IJ LC f a c b=xT LC a ⟨c,f⟩ b:=rfl
def ib(a b:aM):aM:=⟨max a.Time b.Time,e0 min a.an b.an⟩
theorem join_eq{a b:aM}(k:a.an.length=b.an.length)(j:Sm a.an):xW LC a b=c7 (ib a b,0):=by
 have l:a.an.length<=1000000:=j;unfold xW;rw[aG];have e:=nV (f:=λc:Int×List Int×Int=>EG LC a b (aM.mk c.1 c.2.1) c.2.2) a.an.length (λi=>(max a.Time b.Time,(e0 min a.an b.an).take i,(i:Int))) (max a.Time b.Time,e0 min a.an b.an) (λi g=>?_) (by
  dsimp only;unfold EG;rw[aG,fe (by rw[eH];omega)])
 ·refine(dL e).trans ?_
  rfl
 ·dsimp only;unfold EG;have h:(e0 min a.an b.an)[i]? =c7 (min a.an[i] (b.an[i]'(by omega))):=by
   rw[c6 (by rw[eH];omega),ga]
  rw[aC,bn,c6 g,aa,bn,c6 (by omega),aa,dm (by decide) (by dsimp only;rw[d9,eH];omega),aa,aJ];have d:(e0 min a.an b.an).take (i+1)=(e0 min a.an b.an).take i++[min a.an[i] (b.an[i]'(by omega))]:=by
   rw[List.take_add_one,h];rfl
  rw[d]
  rfl
theorem PL{a b:aM}{p:Int}(f:a.an.length=b.an.length)(h0:0<=p)(e:p<(a.an.length:Int)):fn (ib a b).an p=min (fn a.an p) (fn b.an p):=by
 have d:=iD (l:=a.an) h0 e;have c:=iD (l:=b.an) h0 (by omega);refine Q4 ?_
 show(e0 min a.an b.an)[p.toNat]? =_
 rw[List.getElem?_zipWith,d,c]
def kM(p:Int->Bool)(a:Nat):List Int:=(List.range a).filterMap λ(i:Nat)=>if p (i:Int) then c7 (i:Int) else gc
theorem SJ{p:Int->Bool}{c:Nat}{a:Int}:a∈kM p c↔0<=a/\a<(c:Int)/\p a=true:=by
 unfold kM;rw[List.mem_filterMap]
 constructor
 ·rintro⟨i,d,b⟩;rw[List.mem_range] at d
  split at b
  ·injection b with b
   subst b;exact⟨by omega,by omega,by assumption⟩
  ·cases b
 ·rintro⟨g,f,e⟩;refine⟨a.toNat,List.mem_range.2 (by omega),?_⟩
  rw[show((a.toNat:Nat):Int)=a by omega,if_pos e]
theorem pQ{p:Int->Bool}{n:Nat}:(kM p n).length<=n:=by
 unfold kM;exact f5 (List.length_filterMap_le _ _) (by rw[List.length_range];exact f1 _)
theorem afI{p:Int->Bool}{a:Nat}:kM p (a+1)=if p (a:Int) then kM p a++[(a:Int)] else kM p a:=by
 unfold kM;rw[List.range_succ,List.filterMap_append]
 split
 ·rename_i b;simp[b]
 ·rename_i b;simp[b]
theorem GY{n:Nat}(l:n<=1000000){P:Int->Option Bool}{p:Int->Bool}{f:List Int×Int->Option ((List Int×Int)⊕List Int)}(d:∀i:Nat,i<n->P (i:Int)=c7 (p (i:Int)))
 (c:∀b a,f (b,a)=bif c5 (a<(n:Int)) then(P a).bind λh=>(bif h then(bj 8 b ([a]:List Int)).bind λj=>c7 j else c7 b).bind λg=>c7 (.inl (g,c3 c4 (a+1))) else c7 (.inr b)):
 bO f ([],0)=c7 (kM p n):=by
 refine nV (f:=f) n (λi=>(kM p i,(i:Int))) (kM p n) (λi e=>?_) (by rw[c,aG])
 rw[c,aC,d i e,aa,afI];have:=pQ (p:=p) (n:=i);rw[dm (by decide) (by omega),aJ];cases k:p (i:Int) with
 |true=>rfl
 |false=>rfl
def dz(a:aM)(b:Int):List Int:=kM (λp=>c5 (fn a.an p<=b)) a.an.length
theorem Az{a:aM}{c:Int}(e:Sm a.an):su LC a c=c7 (dz a c):=by
 unfold su HL;have d:=GY (n:=a.an.length) e (P:=λb=>Dw LC b a c) (p:=λp=>c5 (fn a.an p<=c)) (f:=λb=>Ge LC (a.an.length:Int) a c b.1 b.2) (λi g=>by
  unfold Dw;rw[gH (by omega) (by omega),aa]) (λh b=>rfl)
 rw[show LC.loop (λb:List Int×Int=>Ge LC (a.an.length:Int) a c b.1 b.2) ([],0)=_ from d,aa,aa]
 rfl
theorem Sq{b:aM}{c a:Int}:a∈dz b c↔0<=a/\a<(b.an.length:Int)/\fn b.an a<=c:=by
 unfold dz;rw[SJ,decide_eq_true_iff]
theorem Zn{c b:aM}{a:Int}(i:Sm c.an)(j:Sm b.an):EE LC c b a=c7 (c5 (∃d,d∈dz c a/\d∈dz b a)):=by
 unfold EE;rw[Az j,aa,Az i,aa];have m:Fit (dz b a):=by
  have:(dz b a).length<=b.an.length:=pQ;have:b.an.length<=1000000:=j;show(dz b a).length<=_
  omega
 have o:Fit (dz c a):=by
  have:(dz c a).length<=c.an.length:=pQ;have:c.an.length<=1000000:=i;show(dz c a).length<=_
  omega
 have n:B3 LC (dz c a) (dz b a)=c7 ((dz c a).any λd=>c5 (d∈dz b a)):=by
  unfold B3 Iw;have:=fF (l:=dz c a) (P:=λk=>zO LC k (dz b a)) (p:=λd=>c5 (d∈dz b a)) (f:=λe=>IF LC (dz c a) (dz b a) e) o (λk q=>by
   unfold zO;rw[contains_eq m,aa]) (λe=>rfl)
  rw[show(LC.loop (λe=>IF LC (dz c a) (dz b a) e) 0).bind _=_ from this,aa,gm]
 rw[n,aa]
 congr 1
 rw[Bool.eq_iff_iff,List.any_eq_true,decide_eq_true_iff]
 constructor
 ·rintro⟨d,h,g⟩;exact⟨d,h,of_decide_eq_true g⟩
 ·rintro⟨d,h,g⟩;exact⟨d,h,decide_eq_true g⟩
structure tz (w:ay):Prop where
 tg:Sm w.aw
 wh:Sm w.aH
 fr:∀x,x∈w.aH->Sm x.an
def gF(b:aL):Prop:=Sm b.aA/\∀a,a∈b.aA->tz a
theorem Tz{a:ay}(d:tz a):oM LC a=c7 a:=by
 unfold oM;rw[bV d.tg,aa];have g:=jm (f:=λe:List Int×List aM×Int=>r9 LC a (ay.mk e.1 e.2.1) e.2.2) a.aH (λc i=>(a.aw,c,i)) (λc=>(a.aw,c)) (λc j k b=>by
  dsimp only;unfold r9;have h:=jW d.wh b;rw[aC (iy b),jg b,aa,bV (d.fr j (ks b)),aa,dm (by decide) h,aa,aJ]) (by
  dsimp only;unfold r9;rw[aG])
 exact dL g
theorem zK{a:ay}(d:tz a):mH LC a=c7 (a.aH,a.aw):=by
 unfold mH;rw[bV d.tg,aa];have g:=jm (f:=λe:List Int×List aM×Int=>CH LC a (ay.mk e.1 e.2.1) e.2.2) a.aH (λc i=>(a.aw,c,i)) (λc=>(a.aw,c)) (λc j k b=>by
  dsimp only;unfold CH;have h:=jW d.wh b;rw[aC (iy b),jg b,aa,bV (d.fr j (ks b)),aa,dm (by decide) h,aa,aJ]) (by
  dsimp only;unfold CH;rw[aG])
 exact dL g
theorem Zo{a:ay}(d:tz a):Ac LC a=c7 (a.aw,a.aH):=by
 unfold Ac;rw[bV d.tg,aa];have g:=jm (f:=λe:List aM×Int=>CV LC a (ay.mk a.aw e.1) e.2) a.aH (λc i=>(c,i)) (λc=>c) (λc j k b=>by
  dsimp only;unfold CV;have h:=jW d.wh b;rw[aC (iy b),jg b,aa,bV (d.fr j (ks b)),aa,dm (by decide) h,aa,aJ]) (by
  dsimp only;unfold CV;rw[aG])
 exact dL g
def kG(a b:Int):Int:=if a<b then -1 else if b<a then 1 else 0
theorem G1(c b:Int):uE LC c b=c7 (kG c b):=by
 unfold uE Cl kG;rw[aa,aa,aG (λa=>a rfl),aG (λa=>a rfl),wL]
 split
 ·rfl
 ·rw[wL];split <;> rfl
def iH:List Int->List Int->Int
 |[],[]=>0
 |[],_::_=>-1
 |_::_,[]=>1
 |c::d,a::b=>if c<a then -1 else if a<c then 1 else iH d b
theorem PW{a b:List Int}(m:Sm a):sL LC a b=c7 (iH a b):=by
 have s:a.length<=1000000:=m;unfold sL;have r:∀(e i:Nat),i+e=a.length->i<=b.length->((bO (λq=>ui LC a b q) (i:Int)).bind λo=>Sum.elim (λk=>c7 k) (λt=>bif c5 ((a.length:Int)<(b.length:Int)) then c7 (-1) else c7 0) o)=c7 (iH (a.drop i) (b.drop i)):=by
  intro e
  induction e with
  |zero=>
   intro i l p;rw[fZ (b:=Sum.inr ()) (by unfold ui;rw[aG]),aa,dt,g5 (show a.length<=i by omega)]
   by_cases d:(a.length:Int)<(b.length:Int)
   ·rw[aC d,ei (show i<b.length by omega)];rfl
   ·rw[aG d,g5 (show b.length<=i by omega)];rfl
  |succ e n=>
   intro i l p;have f:i<a.length:=by omega
   rw[ei f]
   by_cases d:(b.length:Int)<=(i:Int)
   ·rw[fZ (b:=hP 1) (by unfold ui;rw[aC,bn,c6 f,aa,aC d]),aa,ef,g5 (show b.length<=i by omega)]
    rfl
   ·have h:i<b.length:=by omega
    rw[ei h];unfold iH;have c:ui LC a b (i:Int)=bif c5 (kG a[i] b[i]≠0) then c7 (Sum.inr (hP (kG a[i] b[i]))) else c7 (hP ((i:Int)+1)):=by
     unfold ui;rw[aC,bn,c6 f,aa,aG d,bn,c6 h,aa,G1,aa,aJ]
    unfold kG at c
    by_cases j:a[i]<b[i]
    ·rw[if_pos j] at c⊢;rw[fZ (b:=hP (-1)) (by rw[c];rfl)];rfl
    ·rw[if_neg j] at c⊢
     by_cases g:b[i]<a[i]
     ·rw[if_pos g] at c⊢;rw[fZ (b:=hP 1) (by rw[c];rfl)];rfl
     ·rw[if_neg g] at c⊢;rw[iO (a':=((i+1:Nat):Int)) (by rw[c];rfl)];exact n (i+1) (by omega) (by omega)
 have:=r a.length 0 (by omega) (by omega);rw[h5,h5] at this;exact this
theorem SV:∀a:List Int,iH a a=0
 |[]=>rfl
 |b::a=>by unfold iH;rw[if_neg (by omega),if_neg (by omega)];exact SV a
theorem NH:∀g b h:List Int,iH g b<0->iH b h<0->iH g h<0
 |[],[],_,a,_=>by simp[iH] at a
 |[],_::_,[],_,a=>by simp[iH] at a
 |[],_::_,_::_,_,_=>by simp[iH]
 |_::_,[],_,a,_=>by simp[iH] at a
 |_::_,_::_,[],_,a=>by simp[iH] at a
 |k::g,d::b,z::h,e,c=>by
  unfold iH at e c⊢
  by_cases l:k<d
  ·by_cases f:d<z
   ·rw[if_pos (by omega)];decide
   ·rw[if_neg f] at c
    by_cases i:z<d
    ·rw[if_pos i] at c;omega
    ·rw[if_pos (by omega)];decide
  ·rw[if_neg l] at e
   by_cases f:d<k
   ·rw[if_pos f] at e;omega
   ·rw[if_neg f] at e
    by_cases i:d<z
    ·rw[if_pos (by omega)];decide
    ·rw[if_neg i] at c
     by_cases j:z<d
     ·rw[if_pos j] at c;omega
     ·rw[if_neg j] at c;rw[if_neg (by omega),if_neg (by omega)];exact NH g b h e c
structure mz (m:ak) (b:aL):Prop where
 fN:cP m
 num:1<=b.aA.length/\b.aA.length<=24
 len:∀w,w∈b.aA->(1<=w.aw.length/\w.aw.length<=12)/\w.aH.length=w.aw.length/\lz w.aw
 perm:∀w w',w∈b.aA->w'∈b.aA->dQ w.aw=dQ w'.aw
 asc:∀i w w',b.aA[i]? =c7 w->b.aA[i+1]? =c7 w'->iH w.aw w'.aw<0
 ok:∀w,w∈b.aA->∀x,x∈w.aH->jK m x
theorem ah8{m:ak}{l:List aM}(o:Fit l):Ok (E5 LC l m) λb=>b=false->∀a,a∈l->jK m a:=by
 unfold E5 FJ;have h:∀a,∃b,n7 LC m a=c7 b/\(b=true->cP m/\jK m a):=λa=>OI m a
 let p:aM->Bool:=λa=>!(n7 LC m a).getD false
 have:=fF (l:=l) (P:=λc=>Ld LC c m) (p:=p) (f:=λd=>HW LC l m d) o (λc r=>by
  obtain⟨b,e,_⟩:=h c;show((n7 LC m c).bind λn=>c7 (!n))=c7 (!(n7 LC m c).getD false)
  rw[e];rfl) (λd=>rfl)
 rw[show(LC.loop (λd=>HW LC l m d) 0).bind _=_ from this,aa,gm];refine ae λg a q=>?_
 rw[hQ] at g;have i:=g a q;obtain⟨b,e,j⟩:=h a;have k:p a= !b:=by show(!(n7 LC m a).getD false)=_;rw[e];rfl
 rw[k] at i;cases b with
 |true=>exact(j rfl).2
 |false=>exact absurd rfl i
theorem vB(m:ak)(b:aL)(t:gF b):Ok (p8 LC m b) λv=>v=true->mz m b:=by
 unfold p8;rw[ko,aa,cF,aa,lA,fh rfl,aa];refine aV (λ_=>ae λn=>by cases n) (λn=>?_)
 have H:cP m:=d3 λj=>n (.inl j)
 have j:1<=(b.aA.length:Int)/\(b.aA.length:Int)<=24:=d3 λj=>n (.inr j)
 have h0:b.aA[0]? =c7 (b.aA[0]'(by omega)):=c6 (by omega);have C:=d0 (show 0<b.aA.length by omega);generalize b.aA[0]'(by omega)=s at h0 C;have F:aj b.aA 0=c7 s:=by rw[show(0:Int)=((0:Nat):Int) from rfl,bn];exact h0
 rw[F,aa];unfold qK;rw[aa,Iy (t.2 s C).tg,aa];refine aD (Q:=λw=>match w with | .inl _=>True | .inr _=>mz m b) ?_ λw E=>?_
 ·refine di b.aA.length (λi u=>u=(i:Int)/\(∀c a,c<i->b.aA[c]? =c7 a->((1<=a.aw.length/\a.aw.length<=12)/\a.aH.length=a.aw.length/\lz a.aw)/\dQ a.aw=dQ s.aw/\(∀B,B∈a.aH->jK m B)/\∀d,0<c->b.aA[c -1]? =c7 d->iH d.aw a.aw<0)) _ (λi u y e=>?_) (λu e=>?_) _ ⟨rfl,λc a h=>by omega⟩
  ·obtain⟨rfl,e⟩:=e;have g:b.aA[i]? =c7 b.aA[i]:=c6 y;have A:=d0 y;generalize b.aA[i]=a at g A;have p:=t.2 a A;unfold Fm;rw[aC,bn,g,aa,cF,aa,O6 p.tg,aa,lA,ew rfl,fh rfl,aa];refine aV (λ_=>ae trivial) (λo=>?_)
   unfold qK;rw[aa,Iy p.tg,aa,GV (by show(dQ a.aw).length<=_;rw[uP];have:=jZ p.tg;omega),aa,de];refine aV (λr=>?_) (λ_=>ae trivial)
   have L:Ok (bif c5 (0<(i:Int)) then(aj b.aA (c3 c4 ((i:Int) -1))).bind λJ=>(sL LC J.aw a.aw).bind λN=>c7 (c5 (0<=N)) else c7 false) λv=>v=false->∀d,0<i->b.aA[i -1]? =c7 d->iH d.aw a.aw<0:=by
    refine aV (λP=>?_) (λP=>ae λ_ d V=>by omega)
    have z:b.aA[i -1]? =c7 (b.aA[i -1]'(by omega)):=c6 (by omega);have x:=d0 (show i -1<b.aA.length by omega);generalize b.aA[i -1]'(by omega)=v at z x;rw[aJ,show(i:Int) -1=((i -1:Nat):Int) by omega,bn,z,aa,PW (t.2 v x).tg,aa];refine ae λT d _ f=>?_
    injection f with f
    subst f;have:=of_decide_eq_false T;omega
   refine aD L λX U=>?_
   refine dy (λ_=>ae trivial) (λR=>?_)
   refine aD (ah8 (l:=a.aH) (m:=m) (by show a.aH.length<=_;have:=jZ p.wh;omega)) λW O=>?_
   refine dy (λ_=>ae trivial) (λG=>?_)
   rw[aJ];refine ae ⟨rfl,λc d h f=>?_⟩
   by_cases k:c=i
   ·subst k;rw[g] at f;injection f with f
    subst f;refine⟨⟨?_,?_,d3 λj=>o (.inr (.inr j))⟩,r,O G,λd K M=>U R d K M⟩
    ·have:1<=(a.aw.length:Int)/\(a.aw.length:Int)<=12:=d3 λj=>o (.inl j)
     omega
    ·have:(a.aH.length:Int)=a.aw.length:=d3 λj=>o (.inr (.inl j))
     omega
   ·exact e c d (by omega) f
  ·obtain⟨rfl,e⟩:=e;unfold Fm;rw[aG];have q:∀a,a∈b.aA->∃c,c<b.aA.length/\b.aA[c]? =c7 a:=λa g=>by
    obtain⟨c,h,rfl⟩:=d7.1 g;exact⟨c,h,c6 h⟩
   refine ae ⟨H,by omega,λa g=>?_,λa d g f=>?_,λi a d o r=>?_,λa g=>?_⟩
   ·obtain⟨c,h,k⟩:=q a g;exact(e c a h k).1
   ·obtain⟨c,h,k⟩:=q a g;obtain⟨I,D,S⟩:=q d f;exact(e c a h k).2.1.trans (e I d D S).2.1.symm
   ·exact(e (i+1) d (d2.1 r).1 r).2.2.2 a (by omega) (by rw[show i+1 -1=i by omega];exact o)
   ·obtain⟨c,h,k⟩:=q a g;exact(e c a h k).2.2.1
 ·cases w with
  |inl _=>exact ae λn=>by cases n
  |inr _=>exact ae λ_=>E
theorem mz.lt{m:ak}{b:aL}(h:mz m b):∀{i a:Nat} {d c:ay},i<a->b.aA[i]? =c7 d->b.aA[a]? =c7 c->iH d.aw c.aw<0:=by
 intro i a d c t n j
 induction a generalizing c with
 |zero=>omega
 |succ a o=>
  have s:a<b.aA.length:=by have:=(d2.1 j).1;omega
  have e:=c6 s;have k:=h.asc a _ c e j
  by_cases l:i=a
  ·subst l;rw[n] at e;injection e with e
   rw[e];exact k
  ·exact NH _ _ _ (o (by omega) e) k
theorem Fb{g:Type}[DecidableEq g]:∀(a b:List g),a.Nodup->(∀c,c∈a->c∈b)->a.length<=b.length
 |[],b,_,_=>Nat.zero_le _
 |c::a,b,d,h=>by
  rw[List.nodup_cons] at d;have k:=Fb a (b.erase c) d.2 λj e=>(List.mem_erase_of_ne (λi=>d.1 (by rw[<-i];exact e))).2 (h j (by simp[e]))
  have f:=h c (by simp);rw[List.length_erase_of_mem f] at k;have:=List.length_pos_of_mem f;simp only[e5];omega
theorem aqu(a h:List Int)(o:a.length<=3)(f:h.Perm a):h∈[[a.getD 0 0,a.getD 1 0,a.getD 2 0].take a.length,[a.getD 0 0,a.getD 2 0,a.getD 1 0].take a.length,[a.getD 1 0,a.getD 0 0,a.getD 2 0].take a.length,[a.getD 1 0,a.getD 2 0,a.getD 0 0].take a.length,[a.getD 2 0,a.getD 0 0,a.getD 1 0].take a.length,[a.getD 2 0,a.getD 1 0,a.getD 0 0].take a.length]:=by
 match a,o with
 |[],_=>rw[f.eq_nil];simp
 |[d],_=>rw[g3.1 f];simp
 |[d,b],_=>
  have j:=f.length_eq
  match h,j with
  |[c,e],_=>
   have k:c=d\/c=b:=by simpa using f.mem_iff.1 (show c∈[c,e] by simp)
   rcases k with rfl |rfl
   ·have:=g3.1 (f7 f);injection this with this
    subst this;simp
   ·have:=g3.1 (f7 (f.trans (h6 c d [])));injection this with this
    subst this;simp
 |[d,b,g],_=>
  have j:=f.length_eq
  match h,j with
  |[c,e,z],_=>
   have k:c=d\/c=b\/c=g:=by simpa using f.mem_iff.1 (show c∈[c,e,z] by simp)
   have l:∀p q:Int,[e,z].Perm [p,q]->(e=p/\z=q)\/(e=q/\z=p):=λp q i=>by
    have n:e=p\/e=q:=by simpa using i.mem_iff.1 (show e∈[e,z] by simp)
    rcases n with rfl |rfl
    ·have:=g3.1 (f7 i);injection this with this
     exact .inl ⟨rfl,this⟩
    ·have:=g3.1 (f7 (i.trans (h6 e p [])));injection this with this
     exact .inr ⟨rfl,this⟩
   rcases k with rfl |rfl |rfl
   ·rcases l b g (f7 f) with⟨rfl,rfl⟩ |⟨rfl,rfl⟩ <;> simp
   ·rcases l d g (f7 (f.trans (h6 c d [g]))) with⟨rfl,rfl⟩ |⟨rfl,rfl⟩ <;> simp
   ·have m:[d,b,c].Perm [c,d,b]:=((h6 c b []).cons d).trans (h6 c d [b]);rcases l d b (f7 (f.trans m)) with⟨rfl,rfl⟩ |⟨rfl,rfl⟩ <;> simp
theorem F9{a b:List Int}(c:dQ a=dQ b):a.Perm b:=(uK a).symm.trans (c▸uK b)
theorem mz.Mp{m:ak}{b:aL}(h:mz m b){a:ay}(h0:a∈b.aA)(n:a.aw.length<=3):b.aA.length<=6:=by
 have e:(b.aA.map (·.aw)).length=b.aA.length:=e6 _;rw[<-e];refine f5 (Fb _ _ ?_ (λt o=>?_)) (Nat.le_of_eq (?_:List.length [[a.aw.getD 0 0,a.aw.getD 1 0,a.aw.getD 2 0].take a.aw.length,[a.aw.getD 0 0,a.aw.getD 2 0,a.aw.getD 1 0].take a.aw.length,[a.aw.getD 1 0,a.aw.getD 0 0,a.aw.getD 2 0].take a.aw.length,[a.aw.getD 1 0,a.aw.getD 2 0,a.aw.getD 0 0].take a.aw.length,[a.aw.getD 2 0,a.aw.getD 0 0,a.aw.getD 1 0].take a.aw.length,[a.aw.getD 2 0,a.aw.getD 1 0,a.aw.getD 0 0].take a.aw.length]=6))
 ·refine eE.2 λi s c d l he=>?_
  rw[e6] at c d;rw[List.getElem_map,List.getElem_map] at he;have:=h.lt l (c6 c) (c6 d);rw[he,SV] at this;omega
 ·obtain⟨j,k,rfl⟩:=gy.1 o;exact aqu _ _ n (F9 (h.perm j a k h0))
 ·rfl
def IH(e:aM->aM->Prop)(f:Int)(a d:ay):Prop:=∃(i:Nat) (c b:aM),a.aw[i]? =c7 f/\a.aH[i]? =c7 c/\e c b/\d=⟨a.aw,a.aH.set i b⟩
structure kz (R:aM->aM->Prop) (C:aM->Prop) (tag:Int) (l l':List ay):Prop where
 len:l'.length<=l.length
 from_:∀w',w'∈l'->∃w,w∈l/\IH R tag w w'
 b9:∀w,w∈l->(∃w',w'∈l'/\IH R tag w w')\/∃(i:Nat) (x:aM),w.aw[i]? =c7 tag/\w.aH[i]? =c7 x/\C x
theorem kz.more{j:aM->aM->Prop}{C:aM->Prop}{tag:Int}{n o:List ay}(h:kz j C tag n o){e d:ay}(m:IH j tag e d):kz j C tag (n++[e]) (o++[d]):=by
 refine⟨by have:=h.len;simp;omega,λv a=>?_,λv a=>?_⟩
 ·rcases d6.1 a with a |a
  ·obtain⟨k,l,c⟩:=h.from_ v a;exact⟨k,by simp[l],c⟩
  ·rw[d5] at a;subst a;exact⟨e,by simp,m⟩
 ·rcases d6.1 a with a |a
  ·rcases h.b9 v a with⟨k,l,c⟩ |s
   ·exact .inl ⟨k,by simp[l],c⟩
   ·exact .inr s
  ·rw[d5] at a;subst a;exact .inl ⟨d,by simp,m⟩
theorem kz.drop{d:aM->aM->Prop}{C:aM->Prop}{tag:Int}{e j:List ay}(h:kz d C tag e j){c:ay}{i:Nat}{x:aM}(s:c.aw[i]? =c7 tag)(l:c.aH[i]? =c7 x)(n:C x):kz d C tag (e++[c]) j:=by
 refine⟨by have:=h.len;simp;omega,λv a=>?_,λv a=>?_⟩
 ·obtain⟨m,o,k⟩:=h.from_ v a;exact⟨m,by simp[o],k⟩
 ·rcases d6.1 a with a |a
  ·exact h.b9 v a
  ·rw[d5] at a;subst a;exact .inr ⟨i,x,s,l,n⟩
structure oG (R:aM->aM->Prop) (C:aM->Prop) (m:ak) (tag:Int) (b b':aL):Prop where
 v:mz m b
 ne:b'.aA≠[]
 n:kz R C tag b.aA b'.aA
theorem OX{b:List Int}{a:Int}(d:a∈b):∃i:Nat,gg (λc=>c5 (a=c)) b=(i:Int)/\b[i]? =c7 a:=by
 have h0:0<=gg (λc=>c5 (a=c)) b:=Aw.2 ⟨a,d,decide_eq_true rfl⟩;obtain⟨i,h,g,e,f,_⟩:=HN h0;refine⟨i,g,?_⟩
 rw[e,of_decide_eq_true f]
theorem iE{b:Type}{a:List b}{i:Nat}{c:b}(d:a[i]? =c7 c):a.take (i+1)=a.take i++[c]:=by
 rw[List.take_add_one,d];rfl
theorem LG(f:ak)(b:aL)(m:Int)(e:List Int)(a g:Int)(A:gF b)(S:Fit e)(ab:Fit f.ai):Ok (CS LC f b m e a g) λq=>(q.2=0/\oG (λc d=>d=c\/lG f c e a g d) (λc=>c.Time<=a/\∀p,p∈e->g<fn c.an p) f m b q.1)\/(q.2≠0/\q.1=b):=by
 unfold CS;refine aD (Q:=λr=>(r.2.2.2.2.2.2=0/\oG (λc d=>d=c\/lG f c e a g d) (λc=>c.Time<=a/\∀p,p∈e->g<fn c.an p) f m b r.2.2.2.2.2.1)\/(r.2.2.2.2.2.2≠0/\r.2.2.2.2.2.1=b)) ?_ λr U=>ae U
 unfold I3;refine aD (vB f b A) λv K=>?_
 rw[de];refine dy (λY=>?_) (λ_=>ae (.inr ⟨by simp,rfl⟩))
 have x:=K Y;have ai:=x.num;have h0:b.aA[0]? =c7 (b.aA[0]'(by omega)):=c6 (by omega);have C:=d0 (show 0<b.aA.length by omega);generalize b.aA[0]'(by omega)=t at h0 C;have L:aj b.aA 0=c7 t:=by rw[show(0:Int)=((0:Nat):Int) from rfl,bn];exact h0
 rw[L,aa,contains_eq (by show t.aw.length<=_;have:=jZ (A.2 t C).tg;omega),aa,de];refine aV (λO=>?_) (λ_=>ae (.inr ⟨by simp,rfl⟩))
 refine aD (Q:=λj=>match j with
  | .inl j=>j.2.2.2.2.2.2≠0/\aL.mk j.2.2.2.2.2.1=b
  | .inr j=>kz (λc d=>d=c\/lG f c e a g d) (λc=>c.Time<=a/\∀p,p∈e->g<fn c.an p) m b.aA j.2.2.2.2.2) ?_ λj F=>?_
 ·refine di b.aA.length (λi B=>∃out,B=(f.ai,f.af,e,a,g,out,(i:Int))/\kz (λc d=>d=c\/lG f c e a g d) (λc=>c.Time<=a/\∀p,p∈e->g<fn c.an p) m (b.aA.take i) out) _ (λi B E z=>?_) (λB z=>?_) _ ⟨[],rfl,⟨by simp,λag n=>(by cases n),λh n=>(by simp at n)⟩⟩
  ·obtain⟨out,rfl,o⟩:=z;have w:b.aA[i]? =c7 b.aA[i]:=c6 E;have u:=d0 E;generalize b.aA[i]=h at w u;have N:=A.2 h u;have ah:=x.len h u;have J:m∈h.aw:=(F9 (x.perm h t u C)).mem_iff.2 O;obtain⟨l,P,D⟩:=OX J;have ac:l<h.aH.length:=by have:=(d2.1 D).1;omega
   have s:h.aH[l]? =c7 h.aH[l]:=c6 ac;generalize h.aH[l]=c at s;have al:out.length<=24:=by have:=o.len;rw[d9] at this;omega
   dsimp only;unfold Gz;rw[aC,bn,w,aa,Bb (by show h.aw.length<=_;omega),P,aa,zK N,aa];dsimp only;rw[bn,s,aa,d1,s,aa];unfold JT;obtain⟨q,I,Z⟩:=afE f c e a g S ab;have ad:yX LC (ak.mk f.ai f.af) c e a g=c7 q:=I;rw[ad,aa,aa];dsimp only;simp only[aa];have fin:∀d,(d=c\/lG f c e a g d)->kz (λc d=>d=c\/lG f c e a g d) (λc=>c.Time<=a/\∀p,p∈e->g<fn c.an p) m (b.aA.take (i+1)) (out++[ay.mk h.aw (h.aH.set l d)]):=λd X=>by
    rw[iE w];exact o.more ⟨l,c,d,D,s,X,rfl⟩
   have G:∀y,y=h.aH.set l q.1\/y=h.aH.set l c->(q.1=c\/lG f c e a g q.1)->kz (λc d=>d=c\/lG f c e a g d) (λc=>c.Time<=a/\∀p,p∈e->g<fn c.an p) m (b.aA.take (i+1)) (out++[ay.mk h.aw y]):=λy T W=>by
    rcases T with rfl |rfl
    ·exact fin _ W
    ·exact fin _ (.inl rfl)
   rcases Z with⟨k,M⟩ |⟨k,H,R,V⟩ |⟨k,H⟩
   ·rw[k];simp only[aa,decide_eq_true,decide_eq_false,Int.reduceEq,decide_false,decide_true,cond_true,cond_false,ef,dt];rw[dm (by decide) (by omega),aa,aJ];exact ae ⟨_,rfl,G _ (.inl rfl) (.inr M)⟩
   ·rw[k];simp only[aa,Int.reduceEq,decide_false,decide_true,cond_true,cond_false,ef,dt];rw[aJ];refine ae ⟨_,rfl,?_⟩
    rw[iE w];exact o.drop D s ⟨R,V⟩
   ·rcases k with k |k |k
    ·rw[k];simp only[aa,Int.reduceEq,decide_false,decide_true,cond_true,cond_false,ef,dt];exact ae ⟨by simp,rfl⟩
    ·rw[k];simp only[aa,Int.reduceEq,decide_false,decide_true,cond_true,cond_false,ef,dt];exact ae ⟨by simp,rfl⟩
    ·rw[k];simp only[aa,Int.reduceEq,decide_false,decide_true,cond_true,cond_false,ef,dt];rw[dm (by decide) (by omega),aa,aJ];exact ae ⟨_,rfl,G _ (.inr (ou s).symm) (.inl H)⟩
  ·obtain⟨out,rfl,o⟩:=z;dsimp only;unfold Gz;rw[aG];rw[ev] at o;exact ae o
 ·cases j with
  |inl j=>exact ae (.inr F)
  |inr j=>
   dsimp only[dt];refine aV (λ_=>ae (.inr ⟨by simp,rfl⟩)) (λaf=>ae (.inl ⟨rfl,x,λn=>af ?_,F⟩))
   have n:j.2.2.2.2.2=[]:=n;rw[n];rfl
theorem Sj(e:ak)(b:aL)(o:Int)(g:List Int)(a l k:Int)(z:gF b)(O:Fit g)(U:Fit e.ai):Ok (Bq LC e b o g a l k) λq=>(q.2=0/\oG (λc d=>d=c\/∃j,og e c g a l k d j) (λ_=>False) e o b q.1)\/(q.2≠0/\q.1=b):=by
 unfold Bq;refine aD (Q:=λr=>(r.2.2.2.2.2.2.2=0/\oG (λc d=>d=c\/∃j,og e c g a l k d j) (λ_=>False) e o b r.2.2.2.2.2.2.1)\/(r.2.2.2.2.2.2.2≠0/\r.2.2.2.2.2.2.1=b)) ?_ λr P=>ae P
 unfold Hu;refine aD (vB e b z) λv I=>?_
 rw[de];refine dy (λS=>?_) (λ_=>ae (.inr ⟨by simp,rfl⟩))
 have x:=I S;have ac:=x.num;have h0:b.aA[0]? =c7 (b.aA[0]'(by omega)):=c6 (by omega);have C:=d0 (show 0<b.aA.length by omega);generalize b.aA[0]'(by omega)=u at h0 C;have J:aj b.aA 0=c7 u:=by rw[show(0:Int)=((0:Nat):Int) from rfl,bn];exact h0
 rw[J,aa,contains_eq (by show u.aw.length<=_;have:=jZ (z.2 u C).tg;omega),aa,de];refine aV (λM=>?_) (λ_=>ae (.inr ⟨by simp,rfl⟩))
 refine aD (Q:=λh=>match h with
  | .inl h=>h.2.2.2.2.2.2.2≠0/\aL.mk h.2.2.2.2.2.2.1=b
  | .inr h=>kz (λc d=>d=c\/∃j,og e c g a l k d j) (λ_=>False) o b.aA h.2.2.2.2.2.2) ?_ λh E=>?_
 ·refine di b.aA.length (λi B=>∃out,B=(e.ai,e.af,g,a,l,k,out,(i:Int))/\kz (λc d=>d=c\/∃j,og e c g a l k d j) (λ_=>False) o (b.aA.take i) out) _ (λi B D y=>?_) (λB y=>?_) _ ⟨[],rfl,⟨by simp,λY n=>(by cases n),λf n=>(by simp at n)⟩⟩
  ·obtain⟨out,rfl,s⟩:=y;have A:b.aA[i]? =c7 b.aA[i]:=c6 D;have w:=d0 D;generalize b.aA[i]=f at A w;have L:=z.2 f w;have Z:=x.len f w;have H:o∈f.aw:=(F9 (x.perm f u w C)).mem_iff.2 M;obtain⟨p,N,F⟩:=OX H;have V:p<f.aH.length:=by have:=(d2.1 F).1;omega
   have t:f.aH[p]? =c7 f.aH[p]:=c6 V;generalize f.aH[p]=c at t;have ad:out.length<=24:=by have:=s.len;rw[d9] at this;omega
   dsimp only;unfold Fl;rw[aC,bn,A,aa,Bb (by show f.aw.length<=_;omega),N,aa,zK L,aa];dsimp only;rw[bn,t,aa,d1,t,aa];unfold Io;obtain⟨q,G,T⟩:=aaS e c g a l k O U;have W:wV LC (ak.mk e.ai e.af) c g a l k=c7 q:=G;rw[W,aa,aa];dsimp only;simp only[aa];have fin:∀d,(d=c\/∃j,og e c g a l k d j)->kz (λc d=>d=c\/∃j,og e c g a l k d j) (λ_=>False) o (b.aA.take (i+1)) (out++[ay.mk f.aw (f.aH.set p d)]):=λd R=>by
    rw[iE A];exact s.more ⟨p,c,d,F,t,R,rfl⟩
   rcases T with⟨m,K⟩ |⟨m,ab⟩
   ·rw[m];simp only[aa,Int.reduceEq,decide_false,decide_true,cond_true,cond_false,ef,dt];rw[dm (by decide) (by omega),aa,aJ];exact ae ⟨_,rfl,fin _ (K.elim .inr .inl)⟩
   ·rcases m with m |m |m
    ·rw[m];simp only[aa,Int.reduceEq,decide_false,decide_true,cond_true,cond_false,ef,dt];exact ae ⟨by simp,rfl⟩
    ·rw[m];simp only[aa,Int.reduceEq,decide_false,decide_true,cond_true,cond_false,ef,dt];exact ae ⟨by simp,rfl⟩
    ·rw[m];simp only[aa,Int.reduceEq,decide_false,decide_true,cond_true,cond_false,ef,dt];rw[dm (by decide) (by omega),aa,aJ];refine ae ⟨_,rfl,?_⟩
     have:=fin c (.inl rfl);rw[ou t] at this;exact this
  ·obtain⟨out,rfl,s⟩:=y;dsimp only;unfold Fl;rw[aG];rw[ev] at s;exact ae s
 ·cases h with
  |inl h=>exact ae (.inr E)
  |inr h=>
   dsimp only[dt];refine aV (λ_=>ae (.inr ⟨by simp,rfl⟩)) (λX=>ae (.inl ⟨rfl,x,λn=>X ?_,E⟩))
   have n:h.2.2.2.2.2.2=[]:=n;rw[n];rfl
theorem swap_perm{e:Type}{a:List e}{i b:Nat}{c d:e}(f:a[i]? =c7 c)(j:a[b]? =c7 d):((a.set i d).set b c).Perm a:=by
 obtain⟨h,rfl⟩:=d2.1 f;obtain⟨g,rfl⟩:=d2.1 j;exact List.set_set_perm h g
theorem aaP(d:List ay)(v:∀p,p∈d->Sm p.aw)(C:d.length<=19):Ok (xn LC d 0 (d.length:Int)) λr=>r.Perm d:=by
 unfold xn;rw[aJ];refine aD (Q:=λr=>r.Perm d) ?_ λr k=>ae k
 refine oa (λb:List ay×Int=>b.1.Perm d/\1<=b.2) (λb=>(20 -b.2).toNat) _ (λb j=>?_) _ ⟨.refl _,by simp⟩
 obtain⟨aK,i⟩:=b;obtain⟨e,s⟩:=j;dsimp only at e s⊢;unfold Sx;refine aV (λu=>?_) (λ_=>ae e)
 refine aD (Q:=λr=>r.Perm d) ?_ λr k=>?_
 ·refine oa (λb:List ay×Int=>b.1.Perm d/\0<=b.2/\b.2<(d.length:Int)) (λb=>b.2.toNat) _ (λb j=>?_) _ ⟨e,by show(0:Int)<=i;omega,u⟩
  obtain⟨c,a⟩:=b;obtain⟨e,z,w⟩:=j;dsimp only at e z w⊢;have B:=e.length_eq;unfold Mg
  by_cases l:0<a
  rotate_left
  ·rw[aG l];exact ae e
  have h:c[a.toNat]? =c7 (c[a.toNat]'(by omega)):=c6 (by omega);have f:c[(a -1).toNat]? =c7 (c[(a -1).toNat]'(by omega)):=c6 (by omega);have o:=d0 (show a.toNat<c.length by omega);generalize c[a.toNat]'(by omega)=m at h o;generalize c[(a -1).toNat]'(by omega)=g at f;have A:aj c a=c7 m:=by unfold aj;rw[if_pos (by omega)];exact h
  have q:aj c (a -1)=c7 g:=by unfold aj;rw[if_pos (by omega)];exact f
  have y:=v m (e.mem_iff.1 o);rw[aC l,aJ (n:=a -1),A,aa,h,aa,q,aa,f,aa];unfold IK;rw[PW y];simp only[aa];refine aV (λ_=>?_) (λ_=>ae e)
  have t:(a -1).toNat<(c.set a.toNat g).length:=by rw[d4];omega
  have x:aj (c.set a.toNat g) (a -1)=c7 ((c.set a.toNat g)[(a -1).toNat]):=qC (by omega) (by rw[d4];omega);rw[x,aa,c6 t,aa];refine ae ⟨⟨(swap_perm h f).trans e,by show 0<=a -1;omega,by show a -1<_;omega⟩,?_⟩
  show(a -1).toNat<a.toNat
  omega
 ·rw[aJ];refine ae ⟨⟨k,by show 1<=i+1;omega⟩,?_⟩
  show(20 - (i+1)).toNat<(20 -i).toNat
  omega
theorem aoi(a:List ay)(i:∀c,c∈a->Sm c.aw)(d:a.length<=19):Ok (uv LC a) λr=>r.Perm a:=by
 unfold uv FQ JY GP Je;rw[pr (by decide) (cX (n:=19) d (by decide)),aa,aa];have f:bO (λb:List ay×Int×Int=>zB LC (a.length:Int) b.1 b.2.1 b.2.2) (a,0,20)=c7 (a,0):=fZ (by dsimp only;unfold zB;rw[aG]);rw[show LC.loop (λb:List ay×Int×Int=>zB LC (a.length:Int) b.1 b.2.1 b.2.2) (a,0,20)=_ from f,aa];dsimp only;obtain⟨r,g,h⟩:=aaP a i d;rw[g,aa];have e:bO (λb:Int=>KH LC (a.length:Int) b) 20=c7 ():=fZ (by unfold KH;rw[aG]);rw[e];simp only[aa];exact ae h
def j0(c d:Nat)(a:ay):Prop:=a.aH.length=c/\∀b,b∈a.aH->b.an.length=d
def Over(e:Nat)(d c:ay):Prop:=c.aw=d.aw/\∀(i:Nat) b a,d.aH[i]? =c7 b->c.aH[i]? =c7 a->b.Time<=a.Time/\∀p,0<=p->p<(e:Int)->fn a.an p<=fn b.an p
theorem Over.refl(np:Nat)(c:ay):Over np c c:=⟨rfl,λi x d h a=>by rw[h] at a;injection a with a;subst a;exact⟨ec _,λ_ _ _=>ec _⟩⟩
structure rZ (n np:Nat) (l out:List ay):Prop where
 a:∀w,w∈l->∃w',w'∈out/\Over np w w'
 b:∀Pr:aM->Prop,(∀x y,x.an.length=np->y.an.length=np->Pr x->Pr y->Pr (ib x y))->(∀w,w∈l->∀x,x∈w.aH->Pr x)->∀w',w'∈out->∀x,x∈w'.aH->Pr x
 c:∀w',w'∈out->j0 n np w'/\∃w,w∈l/\w'.aw=w.aw
 d:out.length<=l.length
 e:l≠[]->out≠[]
def oB(a b:ay):ay:=⟨a.aw,e0 ib a.aH b.aH⟩
theorem acE{c b:aM}{a:Nat}(d:c.an.length=a)(e:b.an.length=a):(ib c b).an.length=a:=by
 show(e0 min c.an b.an).length=a
 rw[eH];omega
theorem ake{c d:Nat}{b a:ay}(f:j0 c d b)(e:j0 c d a):j0 c d (oB b a):=by
 refine⟨by show(e0 ib b.aH a.aH).length=c;rw[eH,f.1,e.1];omega,λj h=>?_⟩
 obtain⟨i,g,rfl⟩:=d7.1 (show j∈e0 ib b.aH a.aH from h);rw[eH] at g;rw[ga];exact acE (f.2 _ (d0 (by omega))) (e.2 _ (d0 (by omega)))
theorem FB{c b:ay}{i:Nat}{d:aM}(a:(oB c b).aH[i]? =c7 d):∃g f,c.aH[i]? =c7 g/\b.aH[i]? =c7 f/\d=ib g f:=by
 have a:(e0 ib c.aH b.aH)[i]? =c7 d:=a;obtain⟨h,e⟩:=d2.1 a;rw[eH] at h;rw[ga] at e;exact⟨_,_,c6 (by omega),c6 (by omega),e.symm⟩
theorem amz{s b:Nat}{u d e:ay}(m:j0 s b d)(r:j0 s b e)(v:d.aw=e.aw):(Over b u d->Over b u (oB d e))/\Over b e (oB d e):=by
 refine⟨λo=>⟨o.1,λi c w k j=>?_⟩,⟨v,λi c w k j=>?_⟩⟩
 ·obtain⟨p,q,f,a,rfl⟩:=FB j;obtain⟨x,t⟩:=o.2 i c p k f;have g:=m.2 p (fC f);have h:=r.2 q (fC a);refine⟨by show c.Time<=max p.Time q.Time;omega,λn h0 l=>?_⟩
  rw[PL (g.trans h.symm) h0 (by omega)];have:=t n h0 l;omega
 ·obtain⟨p,q,f,a,rfl⟩:=FB j;have g:=m.2 p (fC f);have h:=r.2 q (fC a);rw[k] at a;injection a with a
  subst a;refine⟨by show c.Time<=max p.Time c.Time;omega,λn h0 l=>?_⟩
  rw[PL (g.trans h.symm) h0 (by omega)];omega
theorem agQ{n e:Nat}{a b:ay}(v:n<=100)(s:e<=1000000)(g:j0 n e a)(c:j0 n e b):bO (λd:List aM×Int=>qR LC b.aH d.1 d.2) (a.aH,0)=c7 (e0 ib a.aH b.aH):=by
 have u:(e0 ib a.aH b.aH).length=n:=by rw[eH,g.1,c.1];omega
 have t:=nV (f:=λd:List aM×Int=>qR LC b.aH d.1 d.2) n (λi=>((e0 ib a.aH b.aH).take i++a.aH.drop i,(i:Int))) (e0 ib a.aH b.aH) (λi j=>?_) (by
  dsimp only;unfold qR;rw[aG (by rw[c.1];omega),fe (by omega),g5 (by rw[g.1];omega),List.append_nil])
 ·simpa using t
 ·dsimp only;unfold qR;have h:i<a.aH.length:=by rw[g.1];exact j
  have k:i<b.aH.length:=by rw[c.1];exact j
  have l:((e0 ib a.aH b.aH).take i).length=i:=by rw[d9,u];omega
  have r:((e0 ib a.aH b.aH).take i++a.aH.drop i)[i]? =c7 a.aH[i]:=by
   rw[ea (by omega),l,gx,ei h];rfl
  have q:=g.2 _ (d0 h);have p:=c.2 _ (d0 k);rw[aC (by rw[c.1];omega),bn,r,aa,bn,c6 k,aa,join_eq (q.trans p.symm) (cX (n:=e) (by omega) s),aa,aJ];have o:(e0 ib a.aH b.aH)[i]? =c7 (ib a.aH[i] b.aH[i]):=by
   rw[c6 (by omega),ga]
  have m:((e0 ib a.aH b.aH).take i++a.aH.drop i).set (i:Int).toNat (ib a.aH[i] b.aH[i])=(e0 ib a.aH b.aH).take (i+1)++a.aH.drop (i+1):=by
   rw[d1,h8 _ _ (by omega),l,gx,ei h,g4,iE o,f6]
   rfl
  dsimp only;rw[m]
  rfl
theorem QQ{n np:Nat}(O:n<=100)(S:np<=1000000)(z:List ay)(a:∀c,c∈z->j0 n np c/\Sm c.aw)(W:z.length<=19):Ok (yK LC z) (rZ n np z):=by
 unfold yK;refine aD (aoi z (λc g=>(a c g).2) W) λo s=>?_
 have al:=s.length_eq;have ah:∀c,c∈o->j0 n np c/\Sm c.aw:=λc g=>a c (s.mem_iff.1 g)
 have X:∀c,j0 n np c->Sm c.aw->tz c:=λc e K=>⟨K,cX (n:=100) (by rw[e.1];exact O) (by decide),λt r=>cX (n:=np) (by rw[e.2 t r];omega) S⟩
 refine gh (Q:=rZ n np o) ?_ λout e=>⟨λc g=>e.a c (s.mem_iff.2 g),λx m l=>e.b x m λc g=>l c (s.mem_iff.1 g),λE A=>?_,by have:=e.d;omega,λad=>e.e λV=>ad ?_⟩
 rotate_left
 ·obtain⟨m,c,l,Y⟩:=e.c E A;exact⟨m,c,s.mem_iff.1 l,Y⟩
 ·rw[V] at s;exact List.nil_perm.1 s
 refine di o.length (λi J=>∃out,J=(out,(i:Int))/\rZ n np (o.take i) out/\∀c,c∈out->Sm c.aw) _ (λi J M H=>?_) (λJ H=>?_) _ ⟨[],rfl,⟨λc g=>(by simp at g),λ_ _ _ E A=>(by cases A),λE A=>(by cases A),by simp,λe=>(by simp at e)⟩,λc g=>(by cases g)⟩
 ·obtain⟨out,rfl,h,B⟩:=H;have g:o[i]? =c7 o[i]:=c6 M;have N:=d0 M;generalize o[i]=c at g N;obtain⟨w,P⟩:=ah c N;have am:out.length<=19:=by have:=h.d;rw[d9] at this;omega
  dsimp only;unfold lZ;rw[aC,bn,g,aa,iE g,aJ (n:=(i:Int)+1)];have new:Ok ((oM LC c).bind λai=>(bj 48 out [ai]).bind λout=>c7 (hP (out,(i:Int)+1))) λd:(List ay×Int)⊕List ay=>match d with
   | .inl T=>∃out,T=(out,((i+1:Nat):Int))/\rZ n np (o.take i++[c]) out/\∀c,c∈out->Sm c.aw
   | .inr b=>rZ n np o b:=by
   rw[Tz (X c w P),aa,dm (by decide) (by omega),aa];refine ae ⟨_,rfl,⟨λu a=>?_,λx m l u a t r=>?_,λu a=>?_,?_,λ_=>by simp⟩,λu a=>?_⟩
   ·rcases d6.1 a with a |a
    ·obtain⟨v,f,k⟩:=h.a u a;exact⟨v,by simp[f],k⟩
    ·rw[d5] at a;subst a;exact⟨u,by simp,Over.refl _ _⟩
   ·rcases d6.1 a with a |a
    ·exact h.b x m (λv y=>l v (by simp[y])) u a t r
    ·rw[d5] at a;subst a;exact l u (by simp) t r
   ·rcases d6.1 a with a |a
    ·obtain⟨v,f,k,I⟩:=h.c u a;exact⟨v,f,by simp[k],I⟩
    ·rw[d5] at a;subst a;exact⟨w,u,by simp,rfl⟩
   ·have:=h.d;simp only[dT,e5,fd] at this⊢;omega
   ·rcases d6.1 a with a |a
    ·exact B u a
    ·rw[d5] at a;subst a;exact P
  rcases List.eq_nil_or_concat out with ak |⟨init,d,j⟩
  ·subst ak;rw[aG (by simp),aa];exact gh new λd j=>by cases d <;> exact j
  ·rw[List.concat_eq_append] at j;have L:out.length=init.length+1:=by rw[j];simp
   have af:aj out (c3 c4 ((out.length:Int) -1))=c7 d:=by
    rw[aJ,L,show((init.length+1:Nat):Int) -1=(init.length:Int) by omega];exact jg (rest:=[]) j
   have C:d∈out:=by rw[j];simp
   obtain⟨D,Z,ag,U⟩:=h.c d C;rw[aC,af,aa,GV (by show d.aw.length<=_;have:=jZ (B d C);omega),aa];refine aV (λK=>?_) (λ_=>gh new λd j=>by cases d <;> exact j)
   rw[aa];refine c8 (agQ O S D w) ?_
   have ab:out.set (c3 c4 ((out.length:Int) -1)).toNat ({d with aH:=e0 ib d.aH c.aH}:ay)=init++[oB d c]:=by
    rw[aJ,L,show(((init.length+1:Nat):Int) -1).toNat=init.length by omega,j,h8 _ _ (f1 _),gx]
    rfl
   rw[ab];have R:=λu=>amz (u:=u) D w K
   have F:∀{u:ay},u∈init++[oB d c]->u∈init\/u=oB d c:=λe=>by
    rcases d6.1 e with e |e
    ·exact .inl e
    ·exact .inr (by simpa using e)
   have G:∀u,u∈init->u∈out:=λu e=>by rw[j];simp[e]
   refine ae ⟨_,rfl,⟨λu a=>?_,λx m l u a t r=>?_,λu a=>?_,?_,λ_=>by simp⟩,λu a=>?_⟩
   ·rcases d6.1 a with a |a
    ·obtain⟨v,f,k⟩:=h.a u a;rw[j] at f;rcases d6.1 f with f |f
     ·exact⟨v,by simp[f],k⟩
     ·rw[d5] at f;subst f;exact⟨oB v c,by simp,(R u).1 k⟩
    ·rw[d5] at a;subst a;exact⟨oB d u,by simp,(R u).2⟩
   ·rcases F a with a |rfl
    ·exact h.b x m (λv y=>l v (by simp[y])) u (G u a) t r
    ·obtain⟨an,ac⟩:=ft.1 r;obtain⟨p,q,f,k,rfl⟩:=FB ac;exact m p q (D.2 p (fC f)) (w.2 q (fC k)) (h.b x m (λv y=>l v (by simp[y])) d C p (fC f)) (l c (by simp) q (fC k))
   ·rcases F a with a |rfl
    ·obtain⟨v,f,k,I⟩:=h.c u (G u a);exact⟨v,f,by simp[k],I⟩
    ·exact⟨ake D w,Z,by simp[ag],U⟩
   ·have:=h.d;simp only[dT,e5,fd] at this⊢;omega
   ·rcases F a with a |rfl
    ·exact B u (G u a)
    ·exact B d C
 ·obtain⟨out,rfl,h,B⟩:=H;dsimp only;unfold lZ;rw[aG];rw[ev] at h;exact ae h
def kH(i b:Int)(a:List aM):List aM:=match a[i.toNat]? with |some c=>if b<c.Time\/2147483648<b then a else a.set i.toNat ⟨b,c.an⟩ |none=>a
def rU(i c b:Int)(a:ay):ay:=⟨gL i c a.aw,kH c b (kH i b a.aH)⟩
theorem ID{i b:Int}{a:List aM}:(kH i b a).length=a.length:=by
 unfold kH
 split
 ·split
  ·rfl
  ·rw[d4]
 ·rfl
theorem F3{i d:Int}{h:List aM}{j:Nat}{b:aM}(a:(kH i d h)[j]? =c7 b):∃f,h[j]? =c7 f/\b.an=f.an/\f.Time<=b.Time/\(b.Time=f.Time\/b.Time=d)/\((j:Int)=i->d<=2147483648->d<=b.Time):=by
 unfold kH at a;cases c:h[i.toNat]? with
 |none=>
  rw[c] at a;refine⟨b,a,rfl,ec _,.inl rfl,λe=>?_⟩
  subst e;rw[d1] at c;rw[c] at a;cases a
 |some k=>
  rw[c] at a;dsimp only at a
  split at a
  ·rename_i l;refine⟨b,a,rfl,ec _,.inl rfl,λe m=>?_⟩
   subst e;rw[d1] at c;rw[c] at a;injection a with a
   subst a;omega
  ·rename_i l;rw[f8] at a
   split at a
   ·rename_i g
    split at a
    ·injection a with a
     subst a;refine⟨k,by rw[<-g];exact c,rfl,by show k.Time<=d;omega,.inr rfl,λ_ _=>ec _⟩
    ·cases a
   ·rename_i g;exact⟨b,a,rfl,ec _,.inl rfl,λe=>absurd (by omega) g⟩
theorem NG{i c:Int}{a:List aM}(l:0<=i/\i<(a.length:Int))(n:∀b,b∈a->Sm b.an){k:Type}{f:List aM->Option k}:((aj a i).bind λ_=>(a[i.toNat]?).bind λm=>(xc LC m c).bind λj=>
 (bif c5 (j.2=0) then(aj a i).bind λ_=>(a[i.toNat]?).bind λ_=>c7 (a.set i.toNat j.1) else c7 a).bind f)=f (kH i c a):=by
 have e:a[i.toNat]? =c7 (a[i.toNat]'(by omega)):=c6 (by omega);have h:=d0 (show i.toNat<a.length by omega);unfold kH;generalize a[i.toNat]'(by omega)=b at e h;have g:aj a i=c7 b:=by unfold aj;rw[if_pos l.1];exact e
 rw[g,e];simp only[aa];rw[acF (n b h),aa]
 by_cases d:c<b.Time\/2147483648<c
 ·rw[if_pos d,if_pos d];rfl
 ·rw[if_neg d,if_neg d];rfl
structure AY (m:ak) (i j t:Int) (n np:Nat) (b b':aL):Prop where
 v:mz m b
 num:b'.aA.length<=24
 ix:(0<=i/\i<(n:Int))/\(0<=j/\j<(n:Int))/\i≠j/\0<=t/\t<=2147483648
 ex:∃l,rZ n np l b'.aA/\l≠[]/\(∀w,w∈b.aA->w∈l)/\(∀w x y,w∈b.aA->w.aH[i.toNat]? =c7 x->w.aH[j.toNat]? =c7 y->(∃p,p∈dz x t/\p∈dz y t)->rU i j t w∈l)/\∀u,u∈l->u∈b.aA\/∃w,w∈b.aA/\u=rU i j t w
theorem RM(T:ak)(b:aL)(i c h:Int){n np:Nat}(a5:n<=3)(a3:np<=64)(C:gF b)(G:∀a,a∈b.aA->j0 n np a/\a.aw.length=n):Ok (yY LC T b i c h) λq=>(q.2=0/\AY T i c h n np b q.1)\/(q.2≠0/\q.1=b):=by
 unfold yY;refine aD (vB T b C) λv aw=>?_
 rw[de];refine dy (λah=>?_) (λ_=>ae (.inr ⟨by simp,rfl⟩))
 have O:=aw ah;have aZ:=O.num;have h0:b.aA[0]? =c7 (b.aA[0]'(by omega)):=c6 (by omega);have y:=d0 (show 0<b.aA.length by omega);generalize b.aA[0]'(by omega)=J at h0 y;have aq:aj b.aA 0=c7 J:=by rw[show(0:Int)=((0:Nat):Int) from rfl,bn];exact h0
 have ay:=(G J y).2;have aU:=O.Mp y (by omega);rw[aq,aa,ay,aJ (n:=(n:Int) -1),cF,aa,cF,aa,fh (fh rfl),aa];refine aV (λ_=>ae (.inr ⟨by simp,rfl⟩)) (λa2=>?_)
 rw[cF,aa,de];refine aV (λaf=>?_) (λ_=>ae (.inr ⟨by simp,rfl⟩))
 have R:0<=i/\i<(n:Int):=by omega
 have I:0<=c/\c<(n:Int):=by omega
 have an:i≠c:=by omega
 unfold Ke;rw[pr (by decide) C.1,aa];refine aD (Q:=λe=>e.length<=12/\(∀a,a∈b.aA->a∈e)/\(∀a k l,a∈b.aA->a.aH[i.toNat]? =c7 k->a.aH[c.toNat]? =c7 l->(∃p,p∈dz k h/\p∈dz l h)->rU i c h a∈e)/\∀g,g∈e->g∈b.aA\/∃a,a∈b.aA/\g=rU i c h a) ?_ λe ax=>?_
 ·refine di b.aA.length (λm r=>∃e,r=(e,(m:Int))/\e.length<=6+m/\(∀a,a∈b.aA->a∈e)/\(∀a k l,a∈b.aA.take m->a.aH[i.toNat]? =c7 k->a.aH[c.toNat]? =c7 l->(∃p,p∈dz k h/\p∈dz l h)->rU i c h a∈e)/\∀g,g∈e->g∈b.aA\/∃a,a∈b.aA/\g=rU i c h a) _ (λm r A U=>?_) (λr U=>?_) _ ⟨b.aA,rfl,by omega,λa j=>j,λa k l j=>(by simp at j),λg j=>.inl j⟩
  ·obtain⟨e,rfl,av,D,u,F⟩:=U;have M:b.aA[m]? =c7 b.aA[m]:=c6 A;have x:=d0 A;generalize b.aA[m]=a at M x;have t:=C.2 a x;obtain⟨ai,a6⟩:=G a x;have a0:=ai.1;have N:a.aH[i.toNat]? =c7 (a.aH[i.toNat]'(by omega)):=c6 (by omega);have L:a.aH[c.toNat]? =c7 (a.aH[c.toNat]'(by omega)):=c6 (by omega);have Y:=d0 (show i.toNat<a.aH.length by omega);have ab:=d0 (show c.toNat<a.aH.length by omega);generalize a.aH[i.toNat]'(by omega)=k at N Y;generalize a.aH[c.toNat]'(by omega)=l at L ab;have aK:aj a.aH i=c7 k:=by unfold aj;rw[if_pos R.1];exact N
   have aS:aj a.aH c=c7 l:=by unfold aj;rw[if_pos I.1];exact L
   dsimp only;unfold H9;rw[aC,bn,M,aa,aK,aa,aS,aa,Zn (t.fr k Y) (t.fr l ab),aa,de,aJ (n:=(m:Int)+1),iE M]
   by_cases S:∃p,p∈dz k h/\p∈dz l h
   rotate_left
   ·rw[aG S,aa];refine ae ⟨e,rfl,by omega,D,λg P V d o s B=>?_,F⟩
    rcases d6.1 d with d |d
    ·exact u g P V d o s B
    ·rw[d5] at d;subst d;rw[N] at o;rw[L] at s;injection o with o;injection s with s
     subst o s;exact absurd B S
   rw[aC S,Zo t,aa];have H:a.aw[i.toNat]? =c7 (a.aw[i.toNat]'(by omega)):=c6 (by omega);have w:a.aw[c.toNat]? =c7 (a.aw[c.toNat]'(by omega)):=c6 (by omega);have K:gL i c a.aw=(a.aw.set i.toNat (a.aw[c.toNat]'(by omega))).set c.toNat (a.aw[i.toNat]'(by omega)):=by unfold gL;rw[H,w]
   generalize a.aw[i.toNat]'(by omega)=aR at H K;generalize a.aw[c.toNat]'(by omega)=E at w K;have aE:aj a.aw i=c7 aR:=by unfold aj;rw[if_pos R.1];exact H
   have aI:aj a.aw c=c7 E:=by unfold aj;rw[if_pos I.1];exact w
   have aO:c.toNat<(a.aw.set i.toNat E).length:=by rw[d4];omega
   have aQ:aj (a.aw.set i.toNat E) c=c7 ((a.aw.set i.toNat E)[c.toNat]):=qC I.1 (by rw[d4];omega);dsimp only;rw[aI,aa,w,aa,aE,aa,H,aa,aa,aa,aQ,aa,c6 aO,aa];have ar:bO (λr:List aM×Int=>tC LC i c h r.1 r.2) (a.aH,0)=c7 (kH c h (kH i h a.aH)):=by
    refine akO (f:=λaP al=>tC LC i c h aP al) (λb e=>if b then kH c h e else kH i h e) a.aH ?_ ?_ (λr=>?_)
    ·unfold tC;rw[aC (by decide),show aj ([i,c]:List Int) 0=c7 i from rfl,aa];refine(NG (by omega) t.fr).trans ?_
     rfl
    ·simp only[ge,if_false,if_true];unfold tC;rw[aC (by decide),show aj ([i,c]:List Int) 1=c7 c from rfl,aa];refine(NG (by rw[ID];omega) (λz ao=>?_)).trans ?_
     ·obtain⟨q,am⟩:=ft.1 ao;obtain⟨z0,az,aH,_⟩:=F3 am;rw[aH];exact t.fr z0 (fC az)
     ·rfl
    ·unfold tC;rfl
   rw[ar];simp only[aa];rw[dm (by decide) (by omega),aa,aa, <-K];refine ae ⟨_,rfl,by simp;omega,λg j=>by simp[D g j],λg P V d o s B=>?_,λg d=>?_⟩
   ·rcases d6.1 d with d |d
    ·exact List.mem_append_left _ (u g P V d o s B)
    ·rw[d5] at d;subst d;exact List.mem_append_right _ (by simp[rU])
   ·rcases d6.1 d with d |d
    ·exact F g d
    ·rw[d5] at d;exact .inr ⟨a,x,d⟩
  ·obtain⟨e,rfl,av,D,u,F⟩:=U;dsimp only;unfold H9;rw[aG];rw[ev] at u;exact ae ⟨by omega,D,u,F⟩
 ·obtain⟨a1,Z,ag,W⟩:=ax;have aF:∀a,a∈e->j0 n np a/\Sm a.aw:=λg d=>by
   rcases W g d with j |⟨a,j,rfl⟩
   ·exact⟨(G g j).1,(C.2 g j).tg⟩
   ·obtain⟨X,aY⟩:=G a j;refine⟨⟨?_,λk aB=>?_⟩,?_⟩
    ·show(kH c h (kH i h a.aH)).length=n
     rw[ID,ID];exact X.1
    ·obtain⟨m,A⟩:=ft.1 aB;obtain⟨aX,au,aA,_⟩:=F3 A;obtain⟨ad,ap,ac,_⟩:=F3 au;rw[aA,ac];exact X.2 ad (fC ap)
    ·show(gL i c a.aw).length<=1000000
     unfold gL
     split
     ·rw[d4,d4];omega
     ·omega
  refine aD (QQ (by omega) (by omega) e aF (by omega)) λout aN=>?_
  refine aV (λ_=>ae (.inr ⟨by simp,rfl⟩)) (λa4=>ae (.inl ⟨rfl,O,by show out.length<=24;omega,⟨R,I,an,af⟩,e,aN,λaT=>?_,Z,ag,W⟩))
  have:=Z J y;rw[aT] at this;cases this
def gG(h:aM->aM->Prop)(c e:List ay):Prop:=e.length=c.length/\∀(i:Nat) b a,c[i]? =c7 b->e[i]? =c7 a->a.aw=b.aw/\a.aH.length=b.aH.length/\∀(f:Nat) g d,b.aH[f]? =c7 g->a.aH[f]? =c7 d->h g d
theorem gG.snoc{m:aM->aM->Prop}{l s:List ay}{j d:ay}(h:gG m l s)(B:d.aw=j.aw)(w:d.aH.length=j.aH.length)(y:∀(k:Nat) x n,j.aH[k]? =c7 x->d.aH[k]? =c7 n->m x n):gG m (l++[j]) (s++[d]):=by
 refine⟨by simp[h.1],λi o t a c=>?_⟩
 have A:=h.1
 by_cases u:i<l.length
 ·rw[ez u] at a;rw[ez (by omega)] at c;exact h.2 i o t a c
 ·rw[ea (by omega)] at a;rw[ea (by omega),A] at c;have e:i -l.length=0:=by
   have:=(d2.1 a).1;simp at this;omega
  rw[e] at a c;have a:j=o:=by simpa using a
  have c:d=t:=by simpa using c
  subst a c;exact⟨B,w,y⟩
theorem gG.nil{a:aM->aM->Prop}:gG a [] []:=⟨rfl,λi c d h=>by simp at h⟩
theorem gG.back{e:aM->aM->Prop}{d n:List ay}(h:gG e d n){a:ay}(o:a∈n):∃c,c∈d/\a.aw=c.aw/\a.aH.length=c.aH.length/\∀(k:Nat) x m,c.aH[k]? =c7 x->a.aH[k]? =c7 m->e x m:=by
 obtain⟨i,j,rfl⟩:=d7.1 o;have l:i<d.length:=by rw[<-h.1];exact j
 exact⟨d[i],d0 l,h.2 i _ _ (c6 l) (c6 j)⟩
theorem Gq(h:ak)(b:aL)(m:Int)(R:gF b)(Y:Fit h.ai):Ok (kW LC h b m) λq=>(q.2=0/\cP h/\1<=b.aA.length/\b.aA.length<=24/\gG (λd e=>mP h d m e) b.aA q.1.aA)\/(q.2≠0/\q.1=b):=by
 unfold kW;rw[ko,aa,cF,aa,lA,fh rfl,aa];refine aV (λ_=>ae (.inr ⟨by simp,rfl⟩)) (λy=>?_)
 have S:cP h:=d3 λz=>y (.inl z)
 have z:1<=(b.aA.length:Int)/\(b.aA.length:Int)<=24:=d3 λz=>y (.inr z)
 refine aD (Q:=λa=>match a with
  | .inl a=>a.2≠0/\aL.mk a.1=b
  | .inr a=>a.2=0->gG (λd e=>mP h d m e) b.aA a.1) ?_ λa H=>?_
 ·refine di b.aA.length (λi c=>∃out p,c=(out,p,(i:Int))/\out.length=i/\(p=0->gG (λd e=>mP h d m e) (b.aA.take i) out)) _ (λi c G n=>?_) (λc n=>?_) _ ⟨[],0,rfl,rfl,λ_=>gG.nil⟩
  ·obtain⟨out,p,rfl,M,x⟩:=n;have B:b.aA[i]? =c7 b.aA[i]:=c6 G;have L:=d0 G;generalize b.aA[i]=j at B L;have J:=R.2 j L;have ad:=jZ J.wh;dsimp only;unfold Ka;rw[aC,bn,B,aa,zK J,aa];dsimp only;have O:Ok (bO (λc:List aM×Int×Int=>An LC j h m b c.1 c.2.1 c.2.2) (j.aH,p,0)) λa=>match a with
    | .inl a=>a.2=6/\a.1=b.aA
    | .inr a=>a.1.length=j.aH.length/\(a.2=0->p=0/\∀(g:Nat) d e,j.aH[g]? =c7 d->a.1[g]? =c7 e->mP h d m e):=by
    refine di j.aH.length (λg c=>c.2.2=(g:Int)/\c.1.length=j.aH.length/\(c.2.1=0->p=0/\∀(o:Nat) d e,o<g->j.aH[o]? =c7 d->c.1[o]? =c7 e->mP h d m e)) _ (λg c D n=>?_) (λc n=>?_) _ ⟨rfl,rfl,λy=>⟨y,λo d e K=>by omega⟩⟩
    ·obtain⟨aK,l,ab⟩:=c;obtain⟨rfl,u,r⟩:=n;dsimp only at u r⊢;have t:j.aH[g]? =c7 j.aH[g]:=c6 D;generalize j.aH[g]=d at t;unfold An;rw[aC,bn,t,aa];refine aD (Pd h d m Y) λq w=>?_
     refine aV (λA=>ae ⟨A,rfl⟩) (λA=>?_)
     have E:(bif c5 (l=0) then c7 q.2 else c7 l)=c7 (if l=0 then q.2 else l):=by
      by_cases k:l=0
      ·rw[aC k,if_pos k]
      ·rw[aG k,if_neg k]
     have C:g<aK.length:=by omega
     rw[E,aa,bn,c6 C,aa,d1,c6 C,aa,aJ];refine ae ⟨rfl,by rw[d4];exact u,λf=>?_⟩
     dsimp only at f⊢;have k:l=0:=by
      by_cases k:l=0
      ·exact k
      ·rw[if_neg k] at f;exact f
     rw[if_pos k] at f;obtain⟨F,K⟩:=r k;refine⟨F,λo P Z ac v s=>?_⟩
     by_cases N:o=g
     ·subst N;rw[ej C] at s;rw[t] at v;injection v with v
      injection s with s
      subst v s;rcases w with⟨_,w⟩ |⟨w,_⟩
      ·exact w
      ·omega
     ·rw[f2 (λE=>N E.symm)] at s;exact K o P Z (by omega) v s
    ·obtain⟨aK,l,ab⟩:=c;obtain⟨rfl,u,r⟩:=n;dsimp only at u r⊢;unfold An;rw[aG];refine ae ⟨u,λf=>⟨(r f).1,λg d e t X=>(r f).2 g d e (d2.1 t).1 t X⟩⟩
   obtain⟨a,W,I⟩:=O;rw[W];simp only[aa];cases a with
   |inl a=>
    obtain⟨A,T⟩:=I;dsimp only[ef,dt];rw[aa];dsimp only[ef,dt];refine ae ⟨by show a.2≠0;omega,?_⟩
    show aL.mk a.1=b
    rw[T]
   |inr a=>
    obtain⟨U,V⟩:=I;dsimp only[ef,dt];rw[aa];dsimp only[ef,dt];rw[dm (by decide) (by omega),aa,aJ];refine ae ⟨_,_,rfl,by simp[M],λf=>?_⟩
    obtain⟨F,D⟩:=V f;rw[iE B];exact(x F).snoc rfl U D
  ·obtain⟨out,p,rfl,M,x⟩:=n;dsimp only;unfold Ka;rw[aG];rw[ev] at x;exact ae x
 ·cases a with
  |inl a=>exact ae (.inr H)
  |inr a=>
   dsimp only[dt];refine aV (λf=>ae (.inr ⟨f,rfl⟩)) (λf=>ae (.inl ⟨rfl,S,by omega,by omega,H (dv.1 f)⟩))
structure ki (m:ak) (l:List Int) (bm:ak):Prop where
 fN:cP m
 fy:cj 0 ((m.af.length:Int) -1) l
 pl:bm.ai=m.ai
 len:bm.af.length=m.af.length
 off:∀(i:Nat) r r',m.af[i]? =c7 r->bm.af[i]? =c7 r'->r'=r/\(i:Int)∉l\/r'={r with jy:=false}/\(i:Int)∈l
theorem Nw(d:ak)(b:List Int)(C:Fit b)(G:Fit d.af):Ok (sW LC d b) λq=>(q.2=0/\ki d b q.1)\/(q.2≠0/\(cP d->¬cj 0 ((d.af.length:Int) -1) b)/\q.1=⟨[],[]⟩):=by
 unfold sW;rw[ko,aa,de];refine aV (λl=>?_) (λn=>ae (.inr ⟨by simp,λh=>absurd h n,rfl⟩))
 have H:=l.2.1;rw[aJ,kw _ _ _ C,aa,de];refine aV (λs=>?_) (λn=>ae (.inr ⟨by simp,λ_=>n,rfl⟩))
 rw[mV (cX l.1 (by decide)),aa,nk (cX l.2.1 (by decide)),aa];have F:=s.len (by omega);refine aD (Q:=λu=>u.length=d.af.length/\∀(i:Nat) r c,d.af[i]? =c7 r->u[i]? =c7 c->c=r/\(i:Int)∉b\/c={r with jy:=false}/\(i:Int)∈b) ?_ λu x=>ae (.inl ⟨rfl,l,s,rfl,x.1,x.2⟩)
 refine di b.length (λg f=>f.2=(g:Int)/\f.1.length=d.af.length/\∀(i:Nat) r c,d.af[i]? =c7 r->f.1[i]? =c7 c->c=r/\(i:Int)∉b.take g\/c={r with jy:=false}/\(i:Int)∈b.take g) _ (λg f y m=>?_) (λf m=>?_) _ ⟨rfl,rfl,λi r c h a=>.inl ⟨by rw[h] at a;injection a with a;exact a.symm,by simp⟩⟩
 ·obtain⟨aK,E⟩:=f;obtain⟨rfl,j,e⟩:=m;dsimp only at j e⊢;have v:b[g]? =c7 b[g]:=c6 y;have A:=s.mem (d0 y);generalize b[g]=p at v A;have B:p.toNat<aK.length:=by omega
  have z:aj aK p=c7 (aK[p.toNat]):=qC A.1 (by omega);have k:aK[p.toNat]? =c7 (aK[p.toNat]):=c6 B;generalize aK[p.toNat]=D at z k;unfold Hb;rw[aC,bn,v,aa,z,aa,k,aa,aJ];refine ae ⟨rfl,by rw[d4];exact j,λi r c h a=>?_⟩
  rw[iE v];dsimp only at a;rw[f8] at a
  by_cases w:p.toNat=i
  ·rw[if_pos w,if_pos B] at a;injection a with a
   subst a;rw[w] at k;refine .inr ⟨?_,by simp;right;omega⟩
   rcases e i r D h k with⟨rfl,_⟩ |⟨rfl,_⟩ <;> rfl
  ·rw[if_neg w] at a;rcases e i r c h a with⟨o,t⟩ |⟨o,t⟩
   ·exact .inl ⟨o,by simp[t];omega⟩
   ·exact .inr ⟨o,by simp[t]⟩
 ·obtain⟨aK,E⟩:=f;obtain⟨rfl,j,e⟩:=m;dsimp only at j e⊢;unfold Hb;rw[aG];rw[ev] at e;exact ae ⟨j,e⟩
theorem acx(a:ak)(b:List Int)(h:Fit b)(n:Fit a.af):Ok (vU LC a b) λq=>(q.2.2=0/\ki a b ⟨q.1,q.2.1⟩)\/(q.2.2≠0/\(cP a->¬cj 0 ((a.af.length:Int) -1) b)/\q.1=[]/\q.2.1=[]):=by
 have k:vU LC a b=(sW LC a b).bind λq=>c7 (q.1.ai,q.1.af,q.2):=by
  unfold vU sW;rw[ko,aa,aa]
  by_cases d:cP a
  rotate_left
  ·rw[decide_eq_false d];rfl
  rw[decide_eq_true d];have o:=d.2.1;rw[aJ,kw _ _ _ h,aa,aa]
  by_cases f:cj 0 ((a.af.length:Int) -1) b
  rotate_left
  ·rw[decide_eq_false f];rfl
  rw[decide_eq_true f];simp only[ee,cond_false];rw[mV (cX d.1 (by decide)),aa,aa,nk (cX d.2.1 (by decide)),aa,aa];show((bO (λc:List aZ×Int=>Bp LC b c.1 c.2) (a.af,0)).bind λe=>c7 (a.ai,e,(0:Int)))=((bO (λc:List aZ×Int=>Bp LC b c.1 c.2) (a.af,0)).bind λe=>c7 (ak.mk a.ai e,(0:Int))).bind λq=>c7 (q.1.ai,q.1.af,q.2)
  cases bO (λc:List aZ×Int=>Bp LC b c.1 c.2) (a.af,0) <;> rfl
 rw[k];refine aD (Nw a b h n) λq j=>ae ?_
 rcases j with i |⟨m,l,g⟩
 ·exact .inl i
 ·exact .inr ⟨m,l,by rw[g],by rw[g]⟩
structure rI (bm:ak) (t:Int) (x y:aM):Prop where
 new:jK bm y
 time:y.Time=t
 wt:x.Time<=t/\t<=2147483648
 le:∀p,0<=p->p<(bm.ai.length:Int)->fn x.an p<=t->fn y.an p<=fn x.an p
theorem apC{bm:ak}{x:aM}{t:Int}(K:x.an.length=bm.ai.length)(I:∀v,v∈x.an->fD v)(C:cP bm):Ok (CA LC bm x t) λq=>(q.2=0/\rI bm t x q.1)\/q.2≠0:=by
 have L:=C.1;unfold CA;rw[B6 (by omega),aa,Az (cX (n:=64) (by omega) (by decide)),aa];have z:(dd x.an.length (1099511627776:Int)).length=x.an.length:=d8;have u:∀p,p∈dz x t->0<=p/\p<(x.an.length:Int):=λp e=>by have:=Sq.1 e;exact⟨this.1,this.2.1⟩
 have J:(dz x t).length<=x.an.length:=pQ;refine aD (Q:=λk=>k.length=x.an.length/\(∀v,v∈k->fD v)/\∀p,p∈dz x t->fn k p=fn x.an p) ?_ λk B=>?_
 ·refine di (dz x t).length (λf b=>b.2=(f:Int)/\b.1.length=x.an.length/\(∀v,v∈b.1->fD v)/\∀c p,c<f->(dz x t)[c]? =c7 p->fn b.1 p=fn x.an p) _ (λf b y r=>?_) (λb r=>?_) _ ⟨rfl,z,λv h=>.inr (eo h),λc p o=>by omega⟩
  ·obtain⟨aK,H⟩:=b;obtain⟨rfl,g,i,j⟩:=r;dsimp only at g i j⊢;have e:(dz x t)[f]? =c7 (dz x t)[f]:=c6 y;have d:=u _ (d0 y);generalize (dz x t)[f]=p at e d;unfold JO;rw[aC,bn,e,aa,gH d.1 d.2,aa,gH (l:=aK) d.1 (by omega),aa,iD (l:=aK) d.1 (by omega),aa,aJ];have G:=λq a=>wy (l:=aK) (p:=p) (q:=q) (x:=fn x.an p) d.1 (by omega) a
   refine ae ⟨rfl,by rw[d4];exact g,λv h=>?_,λc q o a=>?_⟩
   ·rcases e4 h with h |rfl
    ·exact i v h
    ·exact I _ (oR d.1 d.2)
   ·dsimp only;have F:=u q (fC a);rw[G q F.1]
    split
    ·rename_i s;rw[s]
    ·rename_i s
     by_cases A:c=f
     ·subst A;rw[e] at a;injection a with a;exact absurd a.symm s
     ·exact j c q (by omega) a
  ·obtain⟨aK,H⟩:=b;obtain⟨rfl,g,i,j⟩:=r;dsimp only at g i j⊢;unfold JO;rw[aG];refine ae ⟨g,i,λp e=>?_⟩
   obtain⟨c,o,rfl⟩:=d7.1 e;exact j c _ o (c6 o)
 ·rw[acr];refine aD (Pd bm ⟨x.Time,k⟩ t (by show bm.ai.length<=_;omega)) λq a=>ae ?_
  rcases a with⟨h0,m⟩ |⟨h0,_⟩
  ·refine .inl ⟨h0,m.new,m.time,m.wt,λp w E D=>?_⟩
   have:=m.le p w E;rw[B.2.2 p (Sq.2 ⟨w,by omega,D⟩)] at this;exact this
  ·exact .inr (by show q.2≠0;omega)
theorem Yj{l:List ay}{a:Int}(h:Fit l)(g:∀d,d∈l->Fit d.aH):AL LC l a=c7 (l.any λd=>d.aH.any λe=>c5 (a<e.Time)):=by
 unfold AL Jm;have:=fF (l:=l) (P:=λc=>AP LC c a) (p:=λd=>d.aH.any λe=>c5 (a<e.Time)) (f:=λb=>Jx LC l a b) h (λc i=>by
  unfold AP JC Gk;have:=fF (l:=c.aH) (P:=λc=>Jb LC c a) (p:=λe=>c5 (a<e.Time)) (f:=λb=>Gr LC c.aH a b) (g c i) (λk j=>rfl) (λb=>rfl);rw[show(LC.loop (λb=>Gr LC c.aH a b) 0).bind _=_ from this,aa,gm]
  rfl) (λb=>rfl)
 rw[show(LC.loop (λb=>Jx LC l a b) 0).bind _=_ from this,aa,gm]
structure Ff (m:ak) (b:aL) (l:List Int) (t:Int) (n np:Nat) (b':aL):Prop where
 v:mz m b
 ex:∃bm lw,ki m l bm/\gG (λx y=>rI bm t x y) b.aA lw/\rZ n np lw b'.aA
theorem adg{d g:ak}{m:List Int}(h:ki d m g):cP g:=by
 obtain⟨a,_,c,j,l⟩:=h;refine⟨by rw[c];exact a.1,by rw[j];exact a.2.1,by rw[c];exact a.2.2.1,λo n=>?_⟩
 obtain⟨i,k,rfl⟩:=d7.1 n;have f:i<d.af.length:=by omega
 rw[c];have e:=a.2.2.2 _ (d0 f);rcases l i _ _ (c6 f) (c6 k) with⟨b,_⟩ |⟨b,_⟩
 ·rw[b];exact e
 ·rw[b];exact e
theorem Uw(l:ak)(b:aL)(u:List Int)(t:Int){n np:Nat}(ai:n<=3)(aF:np<=64)(I:gF b)(ah:Fit u)(ap:Fit l.af)(G:∀a,a∈b.aA->j0 n np a/\a.aw.length=n)(S:l.ai.length=np):Ok (Em LC l b u t) λq=>(q.2=0/\Ff l b u t n np q.1)\/q.2≠0:=by
 unfold Em;refine aD (vB l b I) λv Y=>?_
 rw[de];refine dy (λan=>?_) (λ_=>ae (.inr (by simp)))
 have F:=Y an;have aB:=F.num;have h0:b.aA[0]? =c7 (b.aA[0]'(by omega)):=c6 (by omega);have J:=d0 (show 0<b.aA.length by omega);generalize b.aA[0]'(by omega)=W at h0 J;have aA:=F.Mp J (by rw[(G W J).2];exact ai);refine aD (Nw l u ah ap) λr aj=>?_
 refine aV (λB=>ae (.inr B)) (λZ=>?_)
 obtain⟨bm,av⟩:=r;have C:ki l u bm:=by
  rcases aj with⟨_,k⟩ |⟨k,_⟩
  ·exact k
  ·exact absurd k Z
 have af:=adg C;rw[Yj (by show b.aA.length<=_;omega) (λa f=>by show a.aH.length<=_;rw[(G a f).1.1];omega),aa];have O:(bif c5 (2147483648<t) then c7 true else c7 (b.aA.any λa=>a.aH.any λx=>c5 (t<x.Time)))=c7 (c5 (2147483648<t)||b.aA.any λa=>a.aH.any λx=>c5 (t<x.Time)):=Fy rfl;rw[O,aa];refine dy (λ_=>ae (.inr (by simp))) (λ_=>?_)
 refine aD (Q:=λc=>match c with
  | .inl c=>c.2≠0
  | .inr c=>gG (λx w=>rI bm t x w) b.aA c) ?_ λc D=>?_
 ·refine di b.aA.length (λi e=>∃out,e=(out,(i:Int))/\gG (λx w=>rI bm t x w) (b.aA.take i) out) _ (λi e P j=>?_) (λe j=>?_) _ ⟨[],rfl,gG.nil⟩
  ·obtain⟨out,rfl,y⟩:=j;have f:b.aA[i]? =c7 b.aA[i]:=c6 P;have E:=d0 P;generalize b.aA[i]=a at f E;have ad:=I.2 a E;obtain⟨H,ao⟩:=G a E;have aE:=H.1;have T:=y.1;rw[d9] at T;dsimp only;unfold FR;rw[aC,bn,f,aa,zK ad,aa];dsimp only;have X:Ok (bO (λe:List aM×Int=>zx LC a (bm,av) t b e.1 e.2) (a.aH,0)) λc=>match c with
    | .inl c=>c.2≠0
    | .inr c=>c.length=a.aH.length/\∀(d:Nat) x g,a.aH[d]? =c7 x->c[d]? =c7 g->rI bm t x g:=by
    refine di a.aH.length (λd e=>e.2=(d:Int)/\e.1.length=a.aH.length/\∀(o:Nat) x g,o<d->a.aH[o]? =c7 x->e.1[o]? =c7 g->rI bm t x g) _ (λd e A j=>?_) (λe j=>?_) _ ⟨rfl,rfl,λo x g az=>by omega⟩
    ·obtain⟨aK,au⟩:=e;obtain⟨rfl,p,z⟩:=j;dsimp only at p z⊢;have h:a.aH[d]? =c7 a.aH[d]:=c6 A;have N:=d0 A;generalize a.aH[d]=x at h N;unfold zx;rw[aC,bn,h,aa];refine aD (apC (bm:=bm) (x:=x) (t:=t) (by rw[H.2 x N,C.pl,S]) (F.ok a E x N).1.2.2 af) λq V=>?_
     refine aV (λB=>ae B) (λB=>?_)
     have aq:rI bm t x q.1:=by
      rcases V with⟨_,k⟩ |k
      ·exact k
      ·exact absurd k B
     have L:d<aK.length:=by omega
     rw[bn,c6 L,aa,d1,c6 L,aa,aJ];refine ae ⟨rfl,by rw[d4];exact p,λo w ar ay s m=>?_⟩
     dsimp only at m
     by_cases U:o=d
     ·subst U;rw[ej L] at m;rw[h] at s;injection s with s
      injection m with m
      subst s m;exact aq
     ·rw[f2 (λO=>U O.symm)] at m;exact z o w ar (by omega) s m
    ·obtain⟨aK,au⟩:=e;obtain⟨rfl,p,z⟩:=j;dsimp only at p z⊢;unfold zx;rw[aG];exact ae ⟨p,λd x g h am=>z d x g (d2.1 h).1 h am⟩
   obtain⟨c,al,R⟩:=X;rw[al];simp only[aa];cases c with
   |inl c=>
    dsimp only[ef,dt];rw[aa];exact ae R
   |inr c=>
    obtain⟨K,M⟩:=R;dsimp only[ef,dt];rw[aa];dsimp only[ef,dt];rw[dm (by decide) (by omega),aa,aJ];refine ae ⟨_,rfl,?_⟩
    rw[iE f];exact y.snoc rfl K M
  ·obtain⟨out,rfl,y⟩:=j;dsimp only;unfold FR;rw[aG];rw[ev] at y;exact ae y
 ·cases c with
  |inl c=>exact ae (.inr D)
  |inr c=>
   dsimp only[dt];have T:=D.1;refine aD (QQ (n:=n) (np:=np) (by omega) (by omega) c (λaw ac=>?_) (by omega)) λout ab=>ae (.inl ⟨rfl,F,bm,c,C,D,ab⟩)
   obtain⟨a,f,K,M,ag⟩:=D.back ac;obtain⟨H,ao⟩:=G a f;refine⟨⟨M.trans H.1,λx h=>?_⟩,by rw[K];exact(I.2 a f).tg⟩
   obtain⟨d,A⟩:=ft.1 h;have ax:=(d2.1 A).1;have:=(ag d _ x (c6 (show d<a.aH.length by omega)) A).new.1.1;rw[this,C.pl,S]
def ld(b:aL)(a e:Int):List Int:=kM (λp=>b.aA.any λc=>c5 (0<=a/\a<(c.aH.length:Int))&&(match c.aH[a.toNat]? with |some d=>c5 (p<(d.an.length:Int))&&c5 (fn d.an p<=e) |none=>false)) 64
theorem RJ{b:aL}{f l p:Int}:p∈ld b f l↔0<=p/\p<64/\∃c e,c∈b.aA/\0<=f/\c.aH[f.toNat]? =c7 e/\p<(e.an.length:Int)/\fn e.an p<=l:=by
 unfold ld;rw[SJ,List.any_eq_true]
 constructor
 ·rintro⟨j,g,c,h,k⟩;rw[gb,decide_eq_true_iff] at k;obtain⟨i,a⟩:=k;cases d:c.aH[f.toNat]? with
  |none=>rw[d] at a;cases a
  |some e=>
   rw[d] at a;dsimp only at a;rw[gb,decide_eq_true_iff,decide_eq_true_iff] at a;exact⟨j,g,c,e,h,i.1,d,a.1,a.2⟩
 ·rintro⟨j,g,c,e,h,i,d,a,m⟩;refine⟨j,g,c,h,?_⟩
  have:=(d2.1 d).1;rw[d];dsimp only;rw[gb,decide_eq_true_iff,gb,decide_eq_true_iff,decide_eq_true_iff];exact⟨⟨i,by omega⟩,a,m⟩
theorem QC{b:aL}{a e:Int}(m:gF b):rJ LC b a e=c7 (ld b a e):=by
 unfold rJ Lb;have s:=jZ m.1;have o:=GY (n:=64) (by omega) (P:=λd=>AZ LC d b.aA a e) (p:=λp=>b.aA.any λc=>c5 (0<=a/\a<(c.aH.length:Int))&&(match c.aH[a.toNat]? with |some g=>c5 (p<(g.an.length:Int))&&c5 (fn g.an p<=e) |none=>false)) (f:=λd=>JI LC 64 b.aA a e d.1 d.2) (λi u=>by
  unfold AZ FH Gu;have:=fF (l:=b.aA) (P:=λc=>zt LC c a (i:Int) e) (p:=λc=>c5 (0<=a/\a<(c.aH.length:Int))&&(match c.aH[a.toNat]? with |some g=>c5 ((i:Int)<(g.an.length:Int))&&c5 (fn g.an i<=e) |none=>false)) (f:=λd=>GA LC b.aA a (i:Int) e d) (by omega) (λc q=>by
   unfold zt;have t:=jZ (m.2 c q).wh;rw[aJ (n:=(c.aH.length:Int) -1),cF,aa]
   by_cases j:0<=a/\a<=(c.aH.length:Int) -1
   ·have k:c.aH[a.toNat]? =c7 (c.aH[a.toNat]'(by omega)):=c6 (by omega);generalize c.aH[a.toNat]'(by omega)=g at k;have r:aj c.aH a=c7 g:=by unfold aj;rw[if_pos j.1];exact k
    rw[aC j,r,aa,aa,k,decide_eq_true (show 0<=a/\a<(c.aH.length:Int) by omega),Bool.true_and];dsimp only
    by_cases h:(i:Int)<(g.an.length:Int)
    ·rw[aC h,gH (by omega) h,aa,decide_eq_true h];rfl
    ·rw[aG h,decide_eq_false h];rfl
   ·rw[aG j,decide_eq_false (show ¬(0<=a/\a<(c.aH.length:Int)) by omega)];rfl) (λd=>rfl)
  rw[show(LC.loop (λd=>GA LC b.aA a (i:Int) e d) 0).bind _=_ from this,aa,gm]
  rfl) (λl d=>rfl)
 rw[show LC.loop (λd:List Int×Int=>JI LC 64 b.aA a e d.1 d.2) ([],0)=_ from o,aa,aa]
 rfl
def js(a:ay)(c:List Int)(b:Int)(d:Nat):Bool:=match a.aH[d]? with |some e=>(dz e b).any λp=>c5 (p∈c) |none=>false
def jT(a:ay)(c:List Int)(b:Int)(d:Nat):Bool:=js a c b d&&(match a.aH[d]? with |some e=>!(dz e b).any λp=>!c5 (p∈c) |none=>false)
theorem Zz{e:ay}{g:Nat}{a:List Int}{b:Int}(k:tz e)(m:Fit a)(n:g<e.aH.length):Cx LC e (g:Int) a b=c7 (jT e a b g,js e a b g):=by
 have j:e.aH[g]? =c7 e.aH[g]:=c6 n;have i:=d0 n;unfold Cx jT js;rw[j];generalize e.aH[g]=c at j i;have s:=jZ (k.fr c i);have t:(dz c b).length<=c.an.length:=pQ;have q:CG LC (dz c b) a=c7 ((dz c b).any λp=>c5 (p∈a)):=by
  unfold CG Jg;have:=fF (l:=dz c b) (P:=λh=>uh LC h a) (p:=λp=>c5 (p∈a)) (f:=λd=>Jj LC (dz c b) a d) (by omega) (λh r=>by
   unfold uh;rw[contains_eq m,aa]) (λd=>rfl)
  rw[show(LC.loop (λd=>Jj LC (dz c b) a d) 0).bind _=_ from this,aa,gm]
 have o:zo LC (dz c b) a=c7 ((dz c b).any λp=>!c5 (p∈a)):=by
  unfold zo FW;have:=fF (l:=dz c b) (P:=λh=>zq LC h a) (p:=λp=>!c5 (p∈a)) (f:=λd=>Ih LC (dz c b) a d) (by omega) (λh r=>by
   unfold zq uh;rw[contains_eq m,aa,aa]) (λd=>rfl)
  rw[show(LC.loop (λd=>Ih LC (dz c b) a d) 0).bind _=_ from this,aa,gm]
 rw[aG,bn,j,aa,Az (k.fr c i),aa,q,aa,o,aa];dsimp only;cases (dz c b).any λp=>c5 (p∈a) <;> rfl
def fH(p:Nat->Bool):Nat->Int
 |0=>0
 |a+1=>fH p a+(if p a then 1 else 0)
theorem Iu(p:Nat->Bool):∀a,0<=fH p a/\fH p a<=a
 |0=>by unfold fH;omega
 |a+1=>by have:=Iu p a;unfold fH;split <;> omega
theorem aqJ{b:aL}{c:List Int}{d:Int}(t:gF b)(w:Fit c):Ok (Ew LC b c d) λg=>∀a,a∈b.aA->g.eF<=fH (jT a c d) a.aH.length/\fH (js a c d) a.aH.length<=g.fk:=by
 have D:=jZ t.1;unfold Ew;refine aD (Q:=λq=>∀a,a∈b.aA->q.1<=fH (jT a c d) a.aH.length/\fH (js a c d) a.aH.length<=q.2) ?_ λq v=>ae v
 refine di b.aA.length (λi g=>g.2.2=(i:Int)/\∀a,a∈b.aA.take i->g.1<=fH (jT a c d) a.aH.length/\fH (js a c d) a.aH.length<=g.2.1) _ (λi g r h=>?_) (λg h=>?_) _ ⟨rfl,λa k=>by simp at k⟩
 ·obtain⟨p,o,A⟩:=g;obtain⟨rfl,h⟩:=h;dsimp only at h⊢;have k:b.aA[i]? =c7 b.aA[i]:=c6 r;have u:=d0 r;generalize b.aA[i]=a at k u;have s:=t.2 a u;have G:=jZ s.wh;unfold Fa;rw[aC,bn,k,aa];have B:=nV (f:=λg:Int×Int×Int=>DF LC a c d g.1 g.2.1 g.2.2) a.aH.length (λe=>(fH (jT a c d) e,fH (js a c d) e,(e:Int))) (fH (jT a c d) a.aH.length,fH (js a c d) a.aH.length) (λe z=>by
   dsimp only;unfold DF;have E:=Iu (jT a c d) e;have C:=Iu (js a c d) e;rw[aC,Zz s w z,aa];dsimp only;rw[aJ (n:=fH (jT a c d) e+1),aJ (n:=fH (js a c d) e+1),aJ (n:=(e:Int)+1)];have x:(bif jT a c d e then c7 (fH (jT a c d) e+1) else c7 (fH (jT a c d) e))=c7 (fH (jT a c d) (e+1)):=by
    rw[fH];cases jT a c d e
    ·simp
    ·simp
   have m:(bif js a c d e then c7 (fH (js a c d) e+1) else c7 (fH (js a c d) e))=c7 (fH (js a c d) (e+1)):=by
    rw[fH];cases js a c d e
    ·simp
    ·simp
   rw[x,aa,m,aa]
   rfl) (by
   dsimp only;unfold DF;rw[aG])
  refine c8 B ?_
  dsimp only;have m:(bif c5 ((i:Int)=0) then c7 (fH (jT a c d) a.aH.length,fH (js a c d) a.aH.length) else c7 (p,o))=c7 (if(i:Int)=0 then(fH (jT a c d) a.aH.length,fH (js a c d) a.aH.length) else(p,o)):=by
   by_cases l:(i:Int)=0
   ·rw[aC l,if_pos l]
   ·rw[aG l,if_neg l]
  rw[m,aa,aJ];refine ae ⟨rfl,λy j=>?_⟩
  rw[iE k] at j;dsimp only;rcases d6.1 j with j |j
  ·have F:=h y j;rw[if_neg (by
    intro h0;have:i=0:=by omega
    subst this;simp at j)]
   omega
  ·rw[d5] at j;subst j
   split <;> omega
 ·obtain⟨p,o,A⟩:=g;obtain⟨rfl,h⟩:=h;dsimp only at h⊢;unfold Fa;rw[aG];rw[ev] at h;exact ae h
def D1(b:aL)(d:List Int):Prop:=∀c,c∈b.aA->∀a,a∈c.aH->∀p,p∈d->0<=p->p<(a.an.length:Int)->fn a.an p=1099511627776
noncomputable instance (b:aL) (a:List Int):Decidable (D1 b a):=Classical.propDecidable _
theorem apy{b:List Int}{a:aM}(h:Fit b)(i:Sm a.an):As LC b a=c7 (b.any λp=>c5 ((0<=p/\p<(a.an.length:Int))/\fn a.an p≠1099511627776)):=by
 unfold As G4;have j:=jZ i;have:=fF (l:=b) (P:=λd=>CR LC d a) (p:=λp=>c5 ((0<=p/\p<(a.an.length:Int))/\fn a.an p≠1099511627776)) (f:=λe=>G9 LC b a e) h (λd k=>by
  unfold CR;rw[aJ,cF,aa]
  by_cases c:0<=d/\d<=(a.an.length:Int) -1
  ·rw[aC c,gH c.1 (by omega),aa]
   congr 1
   exact decide_eq_decide.2 ⟨λg=>⟨by omega,g⟩,λg=>g.2⟩
  ·rw[aG c,decide_eq_false (λg=>c (by omega))]) (λe=>rfl)
 rw[show(LC.loop (λe=>G9 LC b a e) 0).bind _=_ from this,aa,gm]
theorem Vo{b:aL}{e:List Int}(k:gF b)(v:Fit e):wA LC b e=c7 (c5 (D1 b e)):=by
 have z:=jZ k.1;unfold wA;have q:∀c,c∈b.aA->bO (λg=>xK LC c e g) 0=c7 (if ∀i,i<c.aH.length->(λi:Nat=>match c.aH[i]? with |some d=>e.any λp=>c5 ((0<=p/\p<(d.an.length:Int))/\fn d.an p≠1099511627776) |none=>false) i=false then .inr () else .inl ()):=λc h=>by
  have A:=jZ (k.2 c h).wh;refine oD _ _ () (λi a=>?_) ?_
  ·unfold xK;rw[aC,bn,c6 a,aa,apy v ((k.2 c h).fr _ (d0 a)),aa,aJ];simp only[c6 a];cases e.any λp=>c5 ((0<=p/\p<(c.aH[i].an.length:Int))/\fn c.aH[i].an p≠1099511627776) <;> rfl
  ·unfold xK;rw[aG]
 have o:∀c,c∈b.aA->((∀i,i<c.aH.length->(λi:Nat=>match c.aH[i]? with |some d=>e.any λp=>c5 ((0<=p/\p<(d.an.length:Int))/\fn d.an p≠1099511627776) |none=>false) i=false)↔∀d,d∈c.aH->∀p,p∈e->0<=p->p<(d.an.length:Int)->fn d.an p=1099511627776):=λc h=>by
  constructor
  ·intro f d w p m h0 l;obtain⟨i,a,rfl⟩:=d7.1 w;have:=f i a;simp only[c6 a,hQ] at this;have:=this p m;rw[decide_eq_true_iff] at this;exact d3 λs=>this ⟨⟨h0,l⟩,s⟩
  ·intro f i a;simp only[c6 a,hQ];intro p m t;obtain⟨⟨h0,l⟩,u⟩:=of_decide_eq_true t;exact u (f _ (d0 a) p m h0 l)
 have x:bO (λg=>wF LC b e g) 0=c7 (if ∀i,i<b.aA.length->(λi:Nat=>match b.aA[i]? with |some c=>!c5 (∀i,i<c.aH.length->(λi:Nat=>match c.aH[i]? with |some d=>e.any λp=>c5 ((0<=p/\p<(d.an.length:Int))/\fn d.an p≠1099511627776) |none=>false) i=false) |none=>false) i=false then .inr () else .inl ()):=by
  refine oD _ _ () (λi a=>?_) ?_
  ·unfold wF;rw[aC,bn,c6 a,aa,show LC.loop (λg=>xK LC b.aA[i] e g) 0=_ from q _ (d0 a),aa,aJ];simp only[c6 a]
   by_cases f:∀n,n<b.aA[i].aH.length->(λr:Nat=>match b.aA[i].aH[r]? with |some d=>e.any λp=>c5 ((0<=p/\p<(d.an.length:Int))/\fn d.an p≠1099511627776) |none=>false) n=false
   ·rw[if_pos f,decide_eq_true f];rfl
   ·rw[if_neg f,decide_eq_false f];rfl
  ·unfold wF;rw[aG]
 rw[show LC.loop (λg=>wF LC b e g) 0=_ from x,aa]
 by_cases j:D1 b e
 ·rw[if_pos (λi a=>by
   simp only[c6 a];rw[decide_eq_true ((o _ (d0 a)).2 (j _ (d0 a)))];rfl),decide_eq_true j]
  rfl
 ·rw[if_neg (λy=>j λc h=>by
   obtain⟨i,a,rfl⟩:=d7.1 h;have:=y i a;simp only[c6 a] at this;rw[Bool.not_eq_false',decide_eq_true_iff] at this;exact(o _ h).1 this),decide_eq_false j]
  rfl
def ke(a:bI):Prop:=-1125899906842624<=a.eF/\a.fk<=1125899906842624/\a.eF<=a.fk
instance (a:bI):Decidable (ke a):=by unfold ke;infer_instance
def lq(a:ak)(b:List bI):Prop:=cP a/\b.length=a.af.length/\∀c,c∈b->ke c
instance (a:ak) (b:List bI):Decidable (lq a b):=by unfold lq;infer_instance
theorem uW(d:ak)(l:List bI):pD LC d l=c7 (c5 (lq d l)):=by
 unfold pD;rw[ko,aa]
 by_cases c:cP d
 rotate_left
 ·rw[aG c,decide_eq_false (λb=>c b.1)]
 have i:=c.2.1;rw[aC c]
 by_cases e:(l.length:Int)=(d.af.length:Int)
 rotate_left
 ·rw[aG e,decide_eq_false (λb=>e (by have:=b.2.1;omega))]
 rw[aC e];have h:B8 LC l=c7 (l.any λa=>!c5 (ke a)):=by
  unfold B8 Kq;have:=fF (l:=l) (P:=λg=>EP LC g) (p:=λa=>!c5 (ke a)) (f:=λa=>Kz LC l a) (by omega) (λg j=>by
   unfold EP;rw[ew (ew rfl), <-decide_not]
   congr 1
   apply decide_eq_decide.2
   unfold ke;omega) (λa=>rfl)
  rw[show(LC.loop (λa=>Kz LC l a) 0).bind _=_ from this,aa,gm]
 rw[h,aa,ot]
 congr 1
 exact decide_eq_decide.2 ⟨λb=>⟨c,by omega,b⟩,λb=>b.2.2⟩
theorem Fe{a:ak}(k:cP a){i:Nat}{d:bI}(b:Bool)(p:ke d):Ok (n6 LC a (i:Int) d b) λn=>n= -1\/(0<=n/\n<=1000000000000):=by
 obtain⟨w,x,u⟩:=p;have A:=k.2.1;unfold n6
 by_cases j:i<a.af.length
 rotate_left
 ·have h:(bif c5 ((i:Int)<0) then c7 true else bif c5 ((a.af.length:Int)<=(i:Int)) then c7 true else(aj a.af (i:Int)).bind λf=>c7 f.eN)=c7 true:=by
   rw[aG,aC]
  rw[h,aa];exact ae (.inl rfl)
 have m:=k.2.2.2 _ (d0 j);have g:=c6 j;generalize a.af[i]=r at m g;have e:=m.2.1;have h:(bif c5 ((i:Int)<0) then c7 true else bif c5 ((a.af.length:Int)<=(i:Int)) then c7 true else(aj a.af (i:Int)).bind λf=>c7 f.eN)=c7 r.eN:=by
  rw[aG,aG,bn,g,aa]
 rw[h,aa];refine dy (λ_=>ae (.inl rfl)) (λ_=>?_)
 rw[bn,g,aa,aJ (n:=0 -d.fk),aJ (n:=0 -d.eF)];refine aD (Q:=λc=>-1125899906842624<=c.2/\c.2<=1125899906842624) (dy (λ_=>ae (by dsimp only;omega)) (λ_=>ae (by dsimp only;omega))) λc s=>?_
 refine aD (Q:=λn=>n= -1\/(0<=n/\n<=1000000000000)) (dy (λ_=>ae (.inr (by omega))) (λ_=>ae (.inl rfl))) λn l=>?_
 refine aV (λz=>?_) (λ_=>ae l)
 have y:1<=r.Length*r.bT:=Int.le_trans (by decide) (Int.mul_le_mul e.1 e.2.2.1 (by decide) (by omega));have t:r.Length*r.bT<=100000*1000:=Int.mul_le_mul e.2.1 e.2.2.2 (by omega) (by decide);rw[aJ (n:=r.Length*r.bT),aJ (n:=r.Length*r.bT*1000),Ek (by omega),aa];have o:(r.Length*r.bT*1000).tdiv c.2=(r.Length*r.bT*1000)/c.2:=Int.tdiv_eq_ediv_of_nonneg (by omega);have q:0<=(r.Length*r.bT*1000)/c.2:=Int.ediv_nonneg (by omega) (by omega);have v:(r.Length*r.bT*1000)/c.2<=r.Length*r.bT*1000:=Int.ediv_le_self _ (by omega);rw[o,aJ,ew rfl,aa];exact aV (λ_=>ae (.inr (by omega))) (λ_=>ae l)
def eC(c:ak)(b:List Int):Prop:=b.length=c.ai.length/\∀a,a∈b->0<=a/\a<=1099511627776
def iu:List Int->Int
 |[]=>0
 |b::a=>b+iu a
theorem FF:∀{l:List Int},(∀a,a∈l->0<=a/\a<=1099511627776)->0<=iu l
 |[],_=>ec _
 |a::l,b=>by
  have f:=b a (by simp);have e:=FF (l:=l) λd c=>b d (by simp[c])
  unfold iu;omega
theorem LQ:∀{b:List Int} {i:Nat} {d a:Int},b[i]? =c7 a->iu (b.set i d)=iu b -a+d
 |[],i,d,a,c=>by simp at c
 |e::b,0,d,a,c=>by
  have:e=a:=by simpa using c
  subst this;rw[g4];unfold iu;omega
 |e::b,i+1,d,a,c=>by
  have f:b[i]? =c7 a:=by simpa using c
  rw[hI];unfold iu;rw[LQ f];omega
theorem eC.set{m:ak}{c:List Int}(h:eC m c)(i:Nat){x:Int}(e:0<=x/\x<=1099511627776):eC m (c.set i x):=⟨by rw[d4];exact h.1,λd a=>by
 rcases e4 a with a |rfl
 ·exact h.2 d a
 ·exact e⟩
theorem P4{c:ak}{fl:List bI}(h:lq c fl){a:List Int}(d:eC c a){i:Nat}(l:i<c.af.length){p q:Int}(g:0<=p/\p<(c.ai.length:Int))(e:0<=q/\q<(c.ai.length:Int))(b:Bool):
 Ok (yr LC a c.ai c.af fl (i:Int) p q b) λr=>eC c r.1/\((r.2=false/\r.1=a)\/(r.2=true/\iu r.1<iu a)):=by
 have k:i<fl.length:=by rw[h.2.1];exact l
 unfold yr;rw[bn,c6 k,aa];refine aD (Fe h.1 b (h.2.2 _ (d0 k))) λn t=>?_
 have j:p<(a.length:Int):=by rw[d.1];exact g.2
 have f:q<(a.length:Int):=by rw[d.1];exact e.2
 have o:=d.2 _ (oR g.1 j);have s:=d.2 _ (oR e.1 f);rw[gH g.1 j,iD g.1 j,gH e.1 f,iD e.1 f];simp only[aa];rw[aJ (n:=fn a p+n),ew (ew (ew rfl)),aa];refine aV (λ_=>ae ⟨d,.inl ⟨rfl,rfl⟩⟩) (λm=>ae ⟨d.set _ (by omega),.inr ⟨rfl,?_⟩⟩)
 show iu (a.set q.toNat (fn a p+n))<iu a
 rw[LQ (iD e.1 f)];omega
theorem Af{b:ak}{fl:List bI}(n:lq b fl){l:List Int}(x:eC b l):Ok (rM LC l b.ai b.af fl) (eC b):=by
 have C:=n.1.2.1;unfold rM;refine aD (Q:=eC b) ?_ λr e=>ae e
 refine oa (λa:List Int×Bool=>eC b a.1) (λa=>2*(iu a.1).toNat+(if a.2 then 1 else 0)) _ (λa c=>?_) _ x
 obtain⟨aK,D⟩:=a;unfold Ms;refine dy (λw=>?_) (λ_=>ae c)
 dsimp only at w c⊢;subst w;refine aD (Q:=λg=>eC b g.1/\((g.2=false/\iu g.1<=iu aK)\/(g.2=true/\iu g.1<iu aK))) ?_ λg o=>?_
 ·refine di b.af.length (λi a=>a.2.2=(i:Int)/\eC b a.1/\((a.2.1=false/\iu a.1<=iu aK)\/(a.2.1=true/\iu a.1<iu aK))) _ (λi a k c=>?_) (λa c=>?_) _ ⟨rfl,c,.inl ⟨rfl,ec _⟩⟩
  ·obtain⟨l,p,y⟩:=a;obtain⟨rfl,h,d⟩:=c;dsimp only at h d⊢;have e:=(n.1.2.2.2 _ (d0 k)).1;unfold I6;rw[aC,bn,c6 k,aa];generalize b.af[i]=r at e;refine aD (P4 n h k ⟨e.1,by omega⟩ ⟨e.2.2.1,by omega⟩ false) λu t=>?_
   refine aD (P4 n t.1 k ⟨e.2.2.1,by omega⟩ ⟨e.1,by omega⟩ true) λv q=>?_
   have z:(bif p then c7 true else bif u.2 then c7 true else c7 v.2)=c7 (p||(u.2||v.2)):=Fy (Fy rfl);rw[z,aa,aJ];refine ae ⟨rfl,q.1,?_⟩
   dsimp only;rcases d with⟨rfl,d⟩ |⟨rfl,d⟩ <;> rcases t.2 with⟨f,j⟩ |⟨f,j⟩ <;> rcases q.2 with⟨s,m⟩ |⟨s,m⟩ <;> rw[f,s] <;> simp only[Bool.or_false,Bool.or_true,Bool.true_or,Bool.false_or,true_and,false_and,reduceCtorEq,false_or,or_false] <;> first |(rw[m,j];exact d) |(rw[m];omega) |(rw[j] at m;omega) |omega
  ·obtain⟨l,p,y⟩:=a;obtain⟨rfl,h,d⟩:=c;dsimp only at h d⊢;unfold I6;rw[aG];exact ae ⟨h,d⟩
 ·have B:=FF c.2;have A:=FF o.1.2;refine ae ⟨o.1,?_⟩
  dsimp only;rcases o.2 with⟨f,j⟩ |⟨f,j⟩
  ·rw[f];simp only[if_true,ge,if_false];omega
  ·rw[f];simp only[if_true];omega
def ud(c:ak)(a:bQ):Prop:=cP c/\a.an.length=c.ai.length/\(0<=a.Time/\a.Time<=2147483648)/\∀b,b∈a.an->b=1099511627776\/(a.Time<=b/\b<=2147483648)
instance (a:ak) (b:bQ):Decidable (ud a b):=by unfold ud;infer_instance
theorem QM(g:ak)(a:bQ):wB LC g a=c7 (c5 (ud g a)):=by
 unfold wB;rw[ko,aa]
 by_cases e:cP g
 rotate_left
 ·rw[aG e,decide_eq_false (λb=>e b.1)]
 have o:=e.1;rw[aC e]
 by_cases h:(a.an.length:Int)=(g.ai.length:Int)
 rotate_left
 ·rw[aG h,decide_eq_false (λb=>h (by have:=b.2.1;omega))]
 rw[aC h,cF,aa];have j:Ab LC a.an a=c7 (a.an.any λc=>!c5 (c=1099511627776\/(a.Time<=c/\c<=2147483648))):=by
  unfold Ab GH;have:=fF (l:=a.an) (P:=λd=>DV LC d a) (p:=λc=>!c5 (c=1099511627776\/(a.Time<=c/\c<=2147483648))) (f:=λi=>GU LC a.an a i) (by omega) (λd n=>by
   unfold DV;rw[cF,aa]
   by_cases b:d=1099511627776
   ·rw[aG (λm=>m b),decide_eq_true (show d=1099511627776\/(a.Time<=d/\d<=2147483648) from .inl b)];rfl
   ·rw[aC b]
    congr 2
    apply decide_eq_decide.2
    exact⟨.inr,λk=>k.resolve_left b⟩) (λa=>rfl)
  rw[show(LC.loop (λi=>GU LC a.an a i) 0).bind _=_ from this,aa,gm]
 rw[j,aa,ot,fm rfl]
 congr 1
 exact decide_eq_decide.2 ⟨λb=>⟨e,by omega,b⟩,λb=>b.2.2⟩
theorem eC.of{m:ak}{s:bQ}(h:ud m s):eC m s.an:=⟨h.2.1,λx a=>by have:=h.2.2.2 x a;have:=h.2.2.1;omega⟩
def filled(a:bQ)(b:Int):List Int:=kM (λp=>c5 (fn a.an p<=b)) a.an.length
theorem Oo{a:bQ}{c:Int}(e:Sm a.an):w6 LC a c=c7 (filled a c):=by
 unfold w6 Fc;have d:=GY (n:=a.an.length) e (P:=λb=>A8 LC b a c) (p:=λp=>c5 (fn a.an p<=c)) (f:=λb=>JS LC (a.an.length:Int) a c b.1 b.2) (λi g=>by
  unfold A8;rw[gH (by omega) (by omega),aa]) (λh a=>rfl)
 rw[show LC.loop (λb:List Int×Int=>JS LC (a.an.length:Int) a c b.1 b.2) ([],0)=_ from d,aa,aa]
 rfl
theorem aqw(a:ak)(fl:List bI)(b:List Int)(h:Int)(t:Fit b)(v:Fit a.ai):Ok (Eh LC a fl b h) λq=>(q.2=0/\eC a q.1.an/\q.1.Time=h/\lq a fl)\/(q.2≠0/\¬(lq a fl/\cj 0 ((a.ai.length:Int) -1) b/\0<=h/\h<=2147483648)):=by
 have x:a.ai.length<=4611686018427387904:=v;unfold Eh;rw[uW,aa,de];refine aV (λg=>?_) (λg=>ae (.inr ⟨by simp,λf=>g f.1⟩))
 rw[aJ,kw _ _ _ t,aa,de];refine aV (λe=>?_) (λe=>ae (.inr ⟨by simp,λf=>e f.2.1⟩))
 rw[cF,aa,de];refine aV (λn=>?_) (λn=>ae (.inr ⟨by simp,λf=>n f.2.2⟩))
 have z:=g.1.1;have y:=e.len (by omega);rw[B6 (by omega),aa];refine aD (Q:=eC a) ?_ λB s=>?_
 ·refine di b.length (λi d=>d.2=(i:Int)/\eC a d.1) _ (λi d l j=>?_) (λd j=>?_) _ ⟨rfl,d8,λA u=>by rw[eo u];omega⟩
  ·obtain⟨aK,w⟩:=d;obtain⟨rfl,c⟩:=j;dsimp only at c⊢;have o:b[i]? =c7 b[i]:=c6 l;have k:=e.mem (d0 l);generalize b[i]=p at o k;have m:p<(aK.length:Int):=by rw[c.1];omega
   unfold Fg;rw[aC,bn,o,aa,gH k.1 m,aa,iD k.1 m,aa,aJ];exact ae ⟨rfl,c.set _ (by omega)⟩
  ·obtain⟨aK,w⟩:=d;obtain⟨rfl,c⟩:=j;dsimp only at c⊢;unfold Fg;rw[aG];exact ae c
 ·exact aD (Af g s) λr e=>ae (.inl ⟨rfl,e,rfl,g⟩)
theorem amZ(a:ak)(fl:List bI)(b:List Int)(h:Int)(t:Fit b)(v:Fit a.ai):Ok (EX LC a fl b h) λq=>(q.2.2=0/\eC a q.1/\q.2.1=h/\lq a fl)\/(q.2.2≠0/\¬(lq a fl/\cj 0 ((a.ai.length:Int) -1) b/\0<=h/\h<=2147483648)):=by
 have x:a.ai.length<=4611686018427387904:=v;unfold EX;rw[uW,aa,de];refine aV (λg=>?_) (λg=>ae (.inr ⟨by simp,λf=>g f.1⟩))
 rw[aJ,kw _ _ _ t,aa,de];refine aV (λe=>?_) (λe=>ae (.inr ⟨by simp,λf=>e f.2.1⟩))
 rw[cF,aa,de];refine aV (λn=>?_) (λn=>ae (.inr ⟨by simp,λf=>n f.2.2⟩))
 have z:=g.1.1;have y:=e.len (by omega);rw[B6 (by omega),aa];refine aD (Q:=eC a) ?_ λB s=>?_
 ·refine di b.length (λi d=>d.2=(i:Int)/\eC a d.1) _ (λi d l j=>?_) (λd j=>?_) _ ⟨rfl,d8,λA u=>by rw[eo u];omega⟩
  ·obtain⟨aK,w⟩:=d;obtain⟨rfl,c⟩:=j;dsimp only at c⊢;have o:b[i]? =c7 b[i]:=c6 l;have k:=e.mem (d0 l);generalize b[i]=p at o k;have m:p<(aK.length:Int):=by rw[c.1];omega
   unfold HM;rw[aC,bn,o,aa,gH k.1 m,aa,iD k.1 m,aa,aJ];exact ae ⟨rfl,c.set _ (by omega)⟩
  ·obtain⟨aK,w⟩:=d;obtain⟨rfl,c⟩:=j;dsimp only at c⊢;unfold HM;rw[aG];exact ae c
 ·exact aD (Af g s) λr e=>ae (.inl ⟨rfl,e,rfl,g⟩)
theorem ajz(a:ak)(fl:List bI)(l:ak)(A:List bI)(m:bQ)(v:Int):Ok (uk LC a fl l A m v) λq=>((q.2=0/\eC l q.1.an/\l.ai.length=a.ai.length)\/(q.2≠0/\q.1=m)):=by
 unfold uk;rw[uW,aa,QM,aa,uW,aa,fh (fh (fh rfl)),aa];refine aV (λ_=>ae (.inr ⟨by simp,rfl⟩)) (λn=>?_)
 have k:lq a fl:=d3 λg=>n (.inl g)
 have t:ud a m:=d3 λg=>n (.inr (.inl g))
 have T:lq l A:=d3 λg=>n (.inr (.inr (.inl g)))
 have ag:(l.ai.length:Int)=a.ai.length:=d3 λg=>n (.inr (.inr (.inr g)))
 rw[ew rfl,aa];refine aV (λ_=>ae (.inr ⟨by simp,rfl⟩)) (λal=>?_)
 have ai:=k.1.1;have an:=k.1.2.1;have P:=t.2.1;have af:=t.2.2.1;have L:=eC.of t;rw[nS (by omega) (by omega),aa,d1];refine aD (Q:=eC a) ?_ λam J=>?_
 ·refine di m.an.length (λi c=>c.2=(i:Int)/\eC a c.1) _ (λi c j f=>?_) (λc f=>?_) _ ⟨rfl,by rw[d8];exact P,λB D=>by rw[eo D];omega⟩
  ·obtain⟨aK,w⟩:=c;obtain⟨rfl,d⟩:=f;dsimp only at d⊢;have ac:=d.1;have D:=L.2 _ (d0 j);unfold Fi;rw[aC,bn,c6 j,aa,bn,c6 (show i<aK.length by omega),aa,d1,c6 (show i<aK.length by omega),aa,aJ];exact ae ⟨rfl,d.set _ (by omega)⟩
  ·obtain⟨aK,w⟩:=c;obtain⟨rfl,d⟩:=f;dsimp only at d⊢;unfold Fi;rw[aG];exact ae d
 refine aD (Q:=eC a) ?_ λG y=>?_
 ·refine di a.af.length (λi c=>c.2=(i:Int)/\eC a c.1) _ (λi c j f=>?_) (λc f=>?_) _ ⟨rfl,J⟩
  ·obtain⟨aK,w⟩:=c;obtain⟨rfl,d⟩:=f;dsimp only at d⊢;have h:=(k.1.2.2.2 _ (d0 j)).1;have x:i<fl.length:=by rw[k.2.1];exact j
   have z:=k.2.2 _ (d0 x);unfold Ii;rw[aC,bn,c6 j,aa,bn,c6 x];generalize a.af[i]=r at h;generalize fl[i]=M at z;have C:∀(p q:Int) (u:Bool) (e:List Int),(0<=p/\p<(a.ai.length:Int))->(0<=q/\q<(a.ai.length:Int))->eC a e->Ok (((aj m.an p).bind λB=>bif c5 (B<=v) then(c7 M).bind λS=>(n6 LC a (i:Int) S u).bind λZ=>c7 (c5 (0<=Z)) else c7 false).bind λK=>bif K then(aj e q).bind λ_=>(e[q.toNat]?).bind λ_=>c7 (e.set q.toNat v) else c7 e) (eC a):=by
    intro p q u e Y o s;have E:q<(e.length:Int):=by rw[s.1];exact o.2
    rw[gH Y.1 (by omega),aa,aa];refine aD (Q:=λ_=>True) (aV (λ_=>aD (Fe k.1 u z) λ_ _=>ae trivial) (λ_=>ae trivial)) λb _=>?_
    rw[gH o.1 E,aa,iD o.1 E,aa];exact dy (λ_=>ae (s.set _ (by omega))) (λ_=>ae s)
   obtain⟨N,W,U⟩:=C r.an r.To false aK ⟨h.1,by omega⟩ ⟨h.2.2.1,by omega⟩ d;obtain⟨ad,F,H⟩:=C r.To r.an true N ⟨h.2.2.1,by omega⟩ ⟨h.1,by omega⟩ U;obtain⟨ah,O,I⟩:=qQ W;obtain⟨ab,R,X⟩:=qQ F;rw[O,aa,I,aa,R,aa,X,aa,aJ];exact ae ⟨rfl,H⟩
  ·obtain⟨aK,w⟩:=c;obtain⟨rfl,d⟩:=f;dsimp only at d⊢;unfold Ii;rw[aG];exact ae d
 have V:eC l G:=⟨by rw[y.1];omega,y.2⟩;exact aD (Af T V) λr h=>ae (.inl ⟨rfl,h,by omega⟩)
theorem akv(a:ak)(fl:List bI)(l:ak)(t:List bI)(m:bQ)(w:Int):Ok (yg LC t a fl l m w) λq=>q.1=t/\((q.2.2=0/\eC l q.2.1.an/\l.ai.length=a.ai.length)\/(q.2.2≠0/\q.2.1=m)):=by
 unfold yg;rw[uW,aa,QM,aa,uW,aa,fh (fh (fh rfl)),aa];refine aV (λ_=>ae ⟨rfl,(.inr ⟨by simp,rfl⟩)⟩) (λn=>?_)
 have k:lq a fl:=d3 λg=>n (.inl g)
 have u:ud a m:=d3 λg=>n (.inr (.inl g))
 have T:lq l t:=d3 λg=>n (.inr (.inr (.inl g)))
 have ag:(l.ai.length:Int)=a.ai.length:=d3 λg=>n (.inr (.inr (.inr g)))
 rw[ew rfl,aa];refine aV (λ_=>ae ⟨rfl,(.inr ⟨by simp,rfl⟩)⟩) (λal=>?_)
 have ai:=k.1.1;have an:=k.1.2.1;have P:=u.2.1;have af:=u.2.2.1;have L:=eC.of u;rw[nS (by omega) (by omega),aa,d1];refine aD (Q:=eC a) ?_ λam J=>?_
 ·refine di m.an.length (λi c=>c.2=(i:Int)/\eC a c.1) _ (λi c j f=>?_) (λc f=>?_) _ ⟨rfl,by rw[d8];exact P,λB D=>by rw[eo D];omega⟩
  ·obtain⟨aK,x⟩:=c;obtain⟨rfl,d⟩:=f;dsimp only at d⊢;have ac:=d.1;have D:=L.2 _ (d0 j);unfold Kc;rw[aC,bn,c6 j,aa,bn,c6 (show i<aK.length by omega),aa,d1,c6 (show i<aK.length by omega),aa,aJ];exact ae ⟨rfl,d.set _ (by omega)⟩
  ·obtain⟨aK,x⟩:=c;obtain⟨rfl,d⟩:=f;dsimp only at d⊢;unfold Kc;rw[aG];exact ae d
 refine aD (Q:=eC a) ?_ λG z=>?_
 ·refine di a.af.length (λi c=>c.2=(i:Int)/\eC a c.1) _ (λi c j f=>?_) (λc f=>?_) _ ⟨rfl,J⟩
  ·obtain⟨aK,x⟩:=c;obtain⟨rfl,d⟩:=f;dsimp only at d⊢;have h:=(k.1.2.2.2 _ (d0 j)).1;have y:i<fl.length:=by rw[k.2.1];exact j
   have A:=k.2.2 _ (d0 y);unfold Jl;rw[aC,bn,c6 j,aa,bn,c6 y];generalize a.af[i]=r at h;generalize fl[i]=M at A;have C:∀(p q:Int) (v:Bool) (e:List Int),(0<=p/\p<(a.ai.length:Int))->(0<=q/\q<(a.ai.length:Int))->eC a e->Ok (((aj m.an p).bind λB=>bif c5 (B<=w) then(c7 M).bind λS=>(n6 LC a (i:Int) S v).bind λZ=>c7 (c5 (0<=Z)) else c7 false).bind λK=>bif K then(aj e q).bind λ_=>(e[q.toNat]?).bind λ_=>c7 (e.set q.toNat w) else c7 e) (eC a):=by
    intro p q v e Y o s;have E:q<(e.length:Int):=by rw[s.1];exact o.2
    rw[gH Y.1 (by omega),aa,aa];refine aD (Q:=λ_=>True) (aV (λ_=>aD (Fe k.1 v A) λ_ _=>ae trivial) (λ_=>ae trivial)) λb _=>?_
    rw[gH o.1 E,aa,iD o.1 E,aa];exact dy (λ_=>ae (s.set _ (by omega))) (λ_=>ae s)
   obtain⟨N,W,U⟩:=C r.an r.To false aK ⟨h.1,by omega⟩ ⟨h.2.2.1,by omega⟩ d;obtain⟨ad,F,H⟩:=C r.To r.an true N ⟨h.2.2.1,by omega⟩ ⟨h.1,by omega⟩ U;obtain⟨ah,O,I⟩:=qQ W;obtain⟨ab,R,X⟩:=qQ F;rw[O,aa,I,aa,R,aa,X,aa,aJ];exact ae ⟨rfl,H⟩
  ·obtain⟨aK,x⟩:=c;obtain⟨rfl,d⟩:=f;dsimp only at d⊢;unfold Jl;rw[aG];exact ae d
 have V:eC l G:=⟨by rw[z.1];omega,z.2⟩;exact aD (Af T V) λr h=>ae ⟨rfl,(.inl ⟨rfl,h,by omega⟩)⟩
def ia(a:Int):Prop:=0<=a/\a<=2147483648
instance (a:Int):Decidable (ia a):=by unfold ia;infer_instance
def RA(a:cy):Prop:=(ia a.Kind/\ia a.eB/\ia a.ku/\ia a.mZ)/\(1<=a.Priority/\a.Priority<=4)/\(1<=a.pB/\a.pB<=2147483648)/\(if a.sd=true then a.l9=0 else(a.ku<=a.l9/\a.l9<=2147483648)/\a.uV=false)
instance (a:cy):Decidable (RA a):=by unfold RA;infer_instance
theorem ahx(a:cy):Dg LC a=c7 (c5 (RA a)):=by
 unfold Dg;have m:bO (λk=>xP LC a k) 0=c7 (if ∀i,i<([a.Kind,a.eB,a.ku,a.mZ]:List Int).length->(λi:Nat=>!c5 (ia (([a.Kind,a.eB,a.ku,a.mZ]:List Int).getD i 0))) i=false then .inr () else .inl ()):=by
  refine oD ([a.Kind,a.eB,a.ku,a.mZ]:List Int).length _ () (λi d=>?_) (by unfold xP;rfl)
  have n:i<4:=d;unfold xP;rw[aC,uu d,aa,cF,aa,aJ];show(bif (!c5 (ia _)) then _ else _)=c7 (bif !c5 (ia _) then _ else _)
  cases c5 (ia ([a.Kind,a.eB,a.ku,a.mZ].getD i 0)) <;> rfl
 rw[show LC.loop (λk=>xP LC a k) 0=_ from m,aa,cF,aa,cF,aa,cF,aa,lA,fh rfl,aa]
 by_cases c:ia a.Kind/\ia a.eB/\ia a.ku/\ia a.mZ
 ·rw[if_pos (λi d=>by
   have d:i<4:=d;have:i=0\/i=1\/i=2\/i=3:=by omega
   have g:∀{p:Prop} [Decidable p],p->(!decide p)=false:=λb=>by rw[decide_eq_true b];rfl
   rcases this with rfl |rfl |rfl |rfl
   ·exact g c.1
   ·exact g c.2.1
   ·exact g c.2.2.1
   ·exact g c.2.2.2),dt]
  by_cases e:(1<=a.Priority/\a.Priority<=4)/\1<=a.pB/\a.pB<=2147483648
  ·rw[aG];cases f:a.sd with
   |true=>
    simp only[cond_true]
    congr 1
    exact decide_eq_decide.2 ⟨λb=>⟨c,e.1,e.2,by rw[if_pos f];exact b⟩,λb=>by have:=b.2.2.2;rw[if_pos f] at this;exact this⟩
   |false=>
    simp only[cond_false]
    by_cases h:a.ku<=a.l9/\a.l9<=2147483648
    ·rw[aC h]
     congr 1
     cases l:a.uV with
     |true=>exact(decide_eq_false (show ¬RA a from λb=>by have:=b.2.2.2;rw[if_neg (by rw[f];simp),l] at this;exact absurd this.2 (by simp))).symm
     |false=>exact(decide_eq_true (show RA a from⟨c,e.1,e.2,by rw[if_neg (by rw[f];simp)];exact⟨h,l⟩⟩)).symm
    ·rw[aG h,decide_eq_false (show ¬RA a from λb=>by have:=b.2.2.2;rw[if_neg (by rw[f];simp)] at this;exact h this.1)]
  ·rw[aC,decide_eq_false (show ¬RA a from λb=>e ⟨b.2.1,b.2.2.1⟩)]
 ·rw[if_neg (λj=>c ⟨by simpa using j 0 (by simp),by simpa using j 1 (by simp),by simpa using j 2 (by simp),by simpa using j 3 (by simp)⟩),ef,decide_eq_false (show ¬RA a from λb=>c b.1)]
def fU(a:cy)(b c:Int):Prop:=a.Kind<b\/a.Kind=b/\a.eB<c
instance (b:cy) (a c:Int):Decidable (fU b a c):=by unfold fU;infer_instance
def fX(a:cy)(b c:Int):Prop:=a.Kind=b/\a.eB=c
def jz(a b:cy):Prop:=fU a b.Kind b.eB
instance (a b:cy):Decidable (jz a b):=by unfold jz;infer_instance
theorem Ia(b:cy)(d a:Int):∃g,rK LC b ⟨d,a⟩=c7 g/\(g<0↔fU b d a)/\(g=0↔fX b d a):=by
 unfold rK;dsimp only;rw[G1,aa,G1,aa];have k:CY LC [kG b.Kind d,kG b.eB a]=c7 (if kG b.Kind d≠0 then kG b.Kind d else kG b.eB a):=by
  unfold CY;generalize kG b.Kind d=e;generalize kG b.eB a=c
  by_cases f:e=0
  ·rw[if_neg (λj=>j f)]
   by_cases i:c=0
   ·subst f i;rw[show LC.loop (λa=>qF LC [0,0] a) 0=c7 (.inr ()) from(iO (a':=1) rfl).trans ((iO (a':=2) rfl).trans (fZ rfl))]
    rfl
   ·subst f;have h:qF LC [0,c] 1=c7 (.inr (.inl c)):=by
     unfold qF;rw[aC (by simp),show aj [0,c] 1=c7 c from rfl,aa,aC i]
    rw[show LC.loop (λa=>qF LC [0,c] a) 0=c7 (.inl c) from(iO (a':=1) rfl).trans (fZ h)]
    rfl
  ·rw[if_pos f];have h:qF LC [e,c] 0=c7 (.inr (.inl e)):=by
    unfold qF;rw[aC (by simp),show aj [e,c] 0=c7 e from rfl,aa,aC f]
   rw[show LC.loop (λa=>qF LC [e,c] a) 0=c7 (.inl e) from fZ h]
   rfl
 rw[k,aa];refine⟨_,rfl,?_,?_⟩
 ·unfold fU kG
  split <;> split <;> (try split) <;> (try split) <;> omega
 ·unfold fX kG
  split <;> split <;> (try split) <;> (try split) <;> omega
def VA(a:List cy):Prop:=a.length<=64/\(∀b∈a,RA b)/\a.Pairwise jz
noncomputable instance (a:List cy):Decidable (VA a):=Classical.propDecidable _
theorem Rl{f:Type}{R:f->f->Prop}(tr:∀a b d,R a b->R b d->R a d):∀c:List f,(∀i (e:i+1<c.length),R c[i] c[i+1])->c.Pairwise R
 |[],_=>.nil
 |[a],_=>List.pairwise_singleton R a
 |a::b::c,e=>by
  have h:=Rl tr (b::c) λi k=>e (i+1) (by simpa using k)
  have j:R a b:=e 0 (by simp);refine hL.2 ⟨λd g=>?_,h⟩
  rcases hz.1 g with rfl |g
  ·exact j
  ·exact tr _ _ _ j ((hL.1 h).1 d g)
theorem aka(a:List cy):yE LC a=c7 (c5 (VA a)):=by
 unfold yE
 by_cases h:64<(a.length:Int)
 ·rw[aC h,decide_eq_false (λe=>by have:=e.1;omega)]
 rw[aG h];have t:bO (λj=>vH LC a j) 0=c7 (if ∀i,i<a.length->(λi:Nat=>match a[i]? with |some d=>c5 (¬RA d)||(match (if 0<i then a[i -1]? else gc) with |some b=>c5 (¬fU b d.Kind d.eB) |none=>false) |none=>false) i=false then .inr () else .inl ()):=by
  refine oD _ _ () (λi c=>?_) (by unfold vH;rw[aG])
  unfold vH;rw[aC,bn,c6 c,aa,ahx,aa,aJ (n:=(i:Int)+1)];simp only[c6 c];have g:(bif c5 (0<(i:Int)) then(aj a (c3 c4 ((i:Int) -1))).bind λs=>(rK LC s (kC.mk a[i].Kind a[i].eB)).bind λm=>c7 (c5 (0<=m)) else c7 false)=c7 (match (if 0<i then a[i -1]? else gc) with |some b=>c5 (¬fU b a[i].Kind a[i].eB) |none=>false):=by
   by_cases h0:0<i
   ·obtain⟨u,r,g,v⟩:=Ia (a[i -1]'(by omega)) a[i].Kind a[i].eB;rw[aC,aJ,show(i:Int) -1=((i -1:Nat):Int) by omega,bn,c6 (show i -1<a.length by omega),aa,r,aa,if_pos h0];dsimp only
    congr 1
    apply decide_eq_decide.2
    rw[<-g];omega
   ·rw[aG,if_neg h0]
  rw[g,M5 rfl,aa, <-decide_not];cases (c5 (¬RA a[i])||(match (if 0<i then a[i -1]? else gc) with |some b=>c5 (¬fU b a[i].Kind a[i].eB) |none=>false)) <;> rfl
 rw[show LC.loop (λj=>vH LC a j) 0=_ from t,aa];have l:(∀i,i<a.length->(λi:Nat=>match a[i]? with |some d=>c5 (¬RA d)||(match (if 0<i then a[i -1]? else gc) with |some b=>c5 (¬fU b d.Kind d.eB) |none=>false) |none=>false) i=false)↔VA a:=by
  constructor
  ·intro e;refine⟨by omega,λd q=>?_,Rl (R:=jz) (λd b u h w=>by unfold jz fU at*;omega) a λi c=>?_⟩
   ·obtain⟨i,c,rfl⟩:=d7.1 q;have:=e i c;simp only[c6 c,g9] at this;exact d3 (of_decide_eq_false this.1)
   ·have:=e (i+1) c;simp only[c6 c,g9,Nat.zero_lt_succ,if_true,Nat.add_sub_cancel,c6 (show i<a.length by omega)] at this;exact d3 (of_decide_eq_false this.2)
  ·rintro⟨_,p,o⟩ i c;simp only[c6 c,g9];refine⟨decide_eq_false λk=>k (p _ (d0 c)),?_⟩
   by_cases h0:0<i
   ·rw[if_pos h0,c6 (show i -1<a.length by omega)];exact decide_eq_false λk=>k (eE.1 o (i -1) i (by omega) c (by omega))
   ·rw[if_neg h0]
 by_cases f:VA a
 ·rw[if_pos (l.2 f),decide_eq_true f];rfl
 ·rw[if_neg (λe=>f (l.1 e)),decide_eq_false f];rfl
theorem alS(d:List cy)(g f:Int)(K:d.Pairwise jz)(O:d.length<=64):Ok (Ec LC d ⟨g,f⟩) λq=>∃n:Nat,q.1=(n:Int)/\n<=d.length/\(∀(a:Nat) c,a<n->d[a]? =c7 c->fU c g f)/\(∀(a:Nat) c,n<=a->d[a]? =c7 c->¬fU c g f)/\(q.2=true->∃c,d[n]? =c7 c/\fX c g f)/\(q.2=false->∀c,d[n]? =c7 c->¬fX c g f):=by
 have E:∀(i a:Nat) c b,i<a->d[i]? =c7 c->d[a]? =c7 b->fU b g f->fU c g f:=λi a c b F e l j=>by
  obtain⟨G,rfl⟩:=d2.1 e;obtain⟨L,rfl⟩:=d2.1 l;have:=eE.1 K i a G L F;unfold jz fU at*;omega
 unfold Ec;refine aD (Q:=λp=>∃n:Nat,p=(n:Int)/\n<=d.length/\(∀(a:Nat) c,a<n->d[a]? =c7 c->fU c g f)/\(∀(a:Nat) c,n<=a->d[a]? =c7 c->¬fU c g f)) ?_ λp t=>?_
 ·refine oa (λk:Int×Int=>∃i a:Nat,k=((i:Int),(a:Int))/\i<=a/\a<=d.length/\(∀(h:Nat) c,h<i->d[h]? =c7 c->fU c g f)/\(∀(h:Nat) c,a<=h->d[h]? =c7 c->¬fU c g f)) (λk=>(k.2 -k.1).toNat) _ (λk I=>?_) _ ⟨0,d.length,rfl,Nat.zero_le _,f1 _,λh c j=>by omega,λh c j e=>by have:=(d2.1 e).1;omega⟩
  obtain⟨i,a,rfl,N,x,B,y⟩:=I;dsimp only;unfold Rt;refine aV (λJ=>?_) (λJ=>?_)
  ·have o:(i+a)/2<d.length:=by omega
   have H:iN .u64 (g0.wrap (c3 c4 ((i:Int)+(a:Int)))) 1=c7 (((i+a)/2:Nat):Int):=by
    rw[aJ (n:=(i:Int)+a),mB (n:=(i:Int)+a) (by omega) (by omega),AD (by omega),show(2:Int)^ (min (1:Int).toNat g0.bits)=2 from rfl,g7 _ (by omega)]
    congr 1
   obtain⟨k,v,s,u⟩:=Ia d[(i+a)/2] g f;rw[H,aa,aJ (n:=(((i+a)/2:Nat):Int)) (by omega) (by omega),bn,c6 o,aa,v,aa];refine aD (Q:=λp=>(k<0/\p=((((i+a)/2+1:Nat):Int),(a:Int)))\/(¬k<0/\p=((i:Int),(((i+a)/2:Nat):Int)))) (aV (λm=>?_) (λm=>ae (.inr ⟨m,rfl⟩))) λp t=>?_
   ·rw[aJ];exact ae (.inl ⟨m,rfl⟩)
   ·rcases t with⟨m,rfl⟩ |⟨m,rfl⟩
    ·refine ae ⟨⟨(i+a)/2+1,a,rfl,by omega,x,λh c M e=>?_,y⟩,?_⟩
     ·have l:=s.1 m
      by_cases w:h=(i+a)/2
      ·subst w;rw[c6 o] at e;injection e with e
       subst e;exact l
      ·exact E h _ c _ (by omega) e (c6 o) l
     ·dsimp only;omega
    ·refine ae ⟨⟨i,(i+a)/2,rfl,by omega,by omega,B,λh c M e l=>?_⟩,?_⟩
     ·have C:¬fU d[(i+a)/2] g f:=λj=>m (s.2 j)
      by_cases w:h=(i+a)/2
      ·subst w;rw[c6 o] at e;injection e with e
       subst e;exact C l
      ·exact C (E _ h _ c (by omega) (c6 o) e l)
     ·dsimp only;omega
  ·have:i=a:=by omega
   subst this;exact ae ⟨i,rfl,x,B,y⟩
 ·obtain⟨n,rfl,A,D,z⟩:=t
  by_cases r:n<d.length
  ·obtain⟨k,v,s,u⟩:=Ia d[n] g f;rw[aC,bn,c6 r,aa,v,aa];refine ae ⟨n,rfl,A,D,z,λj=>⟨_,c6 r,u.1 (of_decide_eq_true j)⟩,λj c e=>?_⟩
   rw[c6 r] at e;injection e with e
   subst e;exact λo=>of_decide_eq_false j (u.2 o)
  ·rw[aG];exact ae ⟨n,rfl,A,D,z,λj=>by simp at j,λ_ c e=>absurd (d2.1 e).1 r⟩
theorem ak8{e:List cy}(m:e.Pairwise jz){c:Nat}{d b:cy}(o:e[c]? =c7 d)(a:b.Kind=d.Kind/\b.eB=d.eB):(e.set c b).Pairwise jz:=by
 refine eE.2 λi j h l n=>?_
 rw[d4] at h l;have f:=eE.1 m i j h l n;obtain⟨p,rfl⟩:=d2.1 o;rw[List.getElem_set,List.getElem_set];unfold jz fU at*
 by_cases k:c=i
 ·subst k;rw[if_pos rfl,if_neg (by omega),a.1,a.2];exact f
 ·rw[if_neg k]
  by_cases g:c=j
  ·subst g;rw[if_pos rfl,a.1,a.2];exact f
  ·rw[if_neg g];exact f
theorem ZH{c:List cy}(k:c.Pairwise jz){a:Nat}{b:cy}(w:a<=c.length)(r:∀(d:Nat) e,d<a->c[d]? =c7 e->fU e b.Kind b.eB)(n:∀(d:Nat) e,a<=d->c[d]? =c7 e->¬fU e b.Kind b.eB)(p:∀e,c[a]? =c7 e->¬fX e b.Kind b.eB):(c.take a++[b]++c.drop a).Pairwise jz:=by
 rw[f6,List.pairwise_append];have m:∀g,g∈c.drop a->jz b g:=λg h=>by
  obtain⟨d,j,rfl⟩:=d7.1 h;rw[ey] at j;have f:c[a+d]? =c7 ((c.drop a)[d]'(by rw[ey];exact j)):=by rw[List.getElem_drop];exact c6 (by omega)
  have s:=n (a+d) _ (by omega) f;generalize (c.drop a)[d]'(by rw[ey];exact j)=g at f s;have h0:=p _ (c6 (show a<c.length by omega));have v:=n a _ (f1 _) (c6 (show a<c.length by omega))
  by_cases q:d=0
  ·subst q;rw[Nat.add_zero,c6 (show a<c.length by omega)] at f;injection f with f
   subst f;unfold jz fU fX at*;omega
  ·obtain⟨u,rfl⟩:=d2.1 f;have:=eE.1 k a (a+d) (by omega) u (by omega);unfold jz fU fX at*;omega
 refine⟨k.sublist (List.take_sublist a c),hL.2 ⟨m,k.sublist (List.drop_sublist a c)⟩,λe t g h=>?_⟩
 obtain⟨i,l,rfl⟩:=d7.1 t;rw[d9] at l;have o:jz ((c.take a)[i]'(by rw[d9];exact l)) b:=by
  refine r i _ (by omega) ?_
  rw[List.getElem_take];exact c6 (by omega)
 rcases hz.1 h with rfl |h
 ·exact o
 ·have:=m g h;unfold jz fU at*;omega
theorem apS(d:List cy)(j h p g:Int):Ok (rk LC d j h p g) λq=>(q.2≠0/\q.1=d)\/(q.2=0/\VA q.1/\(∃c,c∈q.1/\fX c j h)/\∀b,b∈d->∃c,c∈q.1/\fX c b.Kind b.eB):=by
 unfold rk;rw[aka,aa,de];refine aV (λM=>?_) (λ_=>ae (.inl ⟨by simp,rfl⟩))
 obtain⟨r,s,z⟩:=M;rw[cF,aa,cF,aa,cF,aa,lA,fh (fh rfl),aa];refine aV (λ_=>ae (.inl ⟨by simp,rfl⟩)) (λk=>?_)
 have K:ia j:=by unfold ia;omega
 have F:ia h:=by unfold ia;omega
 have B:1<=p/\p<=4:=by omega
 refine aD (alS d j h z r) λq L=>?_
 obtain⟨e,C,P,R,V,w,H⟩:=L;obtain⟨Y,t⟩:=q;dsimp only at C w H⊢;subst C;rw[cF,aa];have I:t=true->e<d.length:=λk=>by obtain⟨c,a,_⟩:=w k;exact(d2.1 a).1
 by_cases A:0<=g/\g<=2147483648
 rotate_left
 ·rw[decide_eq_false A];exact ae (.inl ⟨by simp,rfl⟩)
 have E:ia g:=A;rw[decide_eq_true A];simp only[ee,cond_false];have bad:∃b:Bool,(bif t then(aj d (e:Int)).bind λQ=>bif c5 (g<Q.ku) then c7 true else(aj d (e:Int)).bind λT=>c7 (c5 (g<T.l9)) else c7 false)=c7 b:=by
  cases t with
  |false=>exact⟨_,rfl⟩
  |true=>
   have m:=I rfl;simp only[cond_true];rw[bn,c6 m,aa,aa,ew rfl];exact⟨_,rfl⟩
 obtain⟨b,N⟩:=bad;rw[N,aa];refine dy (λ_=>ae (.inl ⟨by simp,rfl⟩)) (λ_=>?_)
 cases t with
 |false=>
  simp only[h7,cond_true];refine aV (λ_=>ae (.inl ⟨by simp,rfl⟩)) (λX=>?_)
  rw[wE (cX r (by decide)),aa];have u:D3 LC d [cy.mk j h p g 0 true false 0 1] (e:Int)=c7 (d.take e++[cy.mk j h p g 0 true false 0 1]++d.drop e):=by
   unfold D3 B2;rw[if_pos ⟨by omega,by omega,rfl⟩,dm (by decide) (by omega),aa,d1]
  rw[u,aa];refine ae (.inr ⟨rfl,⟨?_,λc a=>?_,ZH z P R V (H rfl)⟩,⟨cy.mk j h p g 0 true false 0 1,by simp,rfl,rfl⟩,λc a=>⟨c,?_,rfl,rfl⟩⟩)
  ·simp only[dT,d9,ey,e5,fd];omega
  ·rcases d6.1 a with a |a
   ·rcases d6.1 a with a |a
    ·exact s c (List.mem_of_mem_take a)
    ·rw[d5] at a;subst a;exact⟨⟨K,F,E,by show(0:Int)<=0/\(0:Int)<=2147483648;omega⟩,B,⟨by show(1:Int)<=1;omega,by show(1:Int)<=2147483648;omega⟩,by simp⟩
   ·exact s c (List.mem_of_mem_drop a)
  ·have:c∈d.take e++d.drop e:=by rw[List.take_append_drop];exact a
   rcases d6.1 this with k |k
   ·simp[k]
   ·simp[k]
 |true=>
  simp only[ee,cond_false];obtain⟨c,a,v⟩:=w rfl;have m:=I rfl;have O:=s c (fC a);rw[wE (cX r (by decide)),aa,bn,a,aa,d1,a];simp only[aa];have fin:∀f:cy,f.Kind=c.Kind/\f.eB=c.eB->RA f->Ok (c7 (d.set e f,(0:Int))) λq=>(q.2≠0/\q.1=d)\/(q.2=0/\VA q.1/\(∃c,c∈q.1/\fX c j h)/\∀b,b∈d->∃c,c∈q.1/\fX c b.Kind b.eB):=λf n S=>by
   refine ae (.inr ⟨rfl,⟨by rw[d4];exact r,λJ l=>?_,ak8 z a n⟩,⟨f,List.mem_set m f,by unfold fX at*;rw[n.1,n.2];exact v⟩,λJ l=>?_⟩)
   ·rcases e4 l with l |rfl
    ·exact s J l
    ·exact S
   ·obtain⟨i,D,rfl⟩:=d7.1 l
    by_cases u:e=i
    ·subst u;rw[c6 D] at a;injection a with a
     exact⟨f,List.mem_set m f,by unfold fX;rw[n.1,n.2,a];exact⟨rfl,rfl⟩⟩
    ·exact⟨d[i],ft.2 ⟨i,by rw[f2 u];exact c6 D⟩,rfl,rfl⟩
  obtain⟨o,U,G,y⟩:=O;rw[de];refine dy (λx=>?_) (λx=>?_)
  ·refine aV (λW=>?_) (λ_=>?_)
   ·rw[ej m,aa,set_set];rw[if_pos x] at y;exact fin _ ⟨rfl,rfl⟩ ⟨⟨o.1,o.2.1,o.2.2.1,by unfold ia;dsimp only;omega⟩,B,G,by rw[if_pos x];exact y⟩
   ·have:=fin c ⟨rfl,rfl⟩ ⟨o,U,G,y⟩;rw[ou a] at this;exact this
  ·rw[aJ];exact fin _ ⟨v.1.symm,v.2.symm⟩ ⟨⟨K,F,E,by unfold ia;dsimp only;omega⟩,B,⟨by dsimp only;omega,by dsimp only;omega⟩,by simp⟩
def uJ(a:List Int):Prop:=(1<=(a.length:Int)/\(a.length:Int)<=12)/\cj 0 127 a
instance (a:List Int):Decidable (uJ a):=by unfold uJ;infer_instance
theorem Nq{a:List Int}(b:Fit a):xa LC a=c7 (c5 (uJ a)):=by
 unfold xa;rw[cF,aa,kw _ _ _ b,aa];exact fm rfl
def ff(b:bA):Prop:=uJ b.af/\b.Keys.length=b.af.length/\(∀a,a∈b.Keys->0<=a/\a<=2)/\(b.Out=true->∀a,a∈b.Keys->a=2)
instance (a:bA):Decidable (ff a):=by unfold ff;infer_instance
theorem QJ{a:bA}(e:Fit a.Keys):yh LC a=c7 (c5 (∀c,c∈a.Keys->c=2)):=by
 unfold yh IU JN;have:=fF (l:=a.Keys) (P:=λd=>CE LC d) (p:=λc=>!c5 (c=2)) (f:=λb=>JW LC a.Keys b) e (λd g=>by
  unfold CE;rw[<-decide_not]) (λb=>rfl)
 rw[show(LC.loop (λb=>JW LC a.Keys b) 0).bind _=_ from this,aa,gm,aa,ot]
theorem tA{a:bA}(k:Fit a.af):oL LC a=c7 (c5 (ff a)):=by
 unfold oL;rw[Nq k,aa]
 by_cases e:uJ a.af
 rotate_left
 ·rw[aG e,decide_eq_false (λb=>e b.1)]
 rw[aC e]
 by_cases h:(a.Keys.length:Int)=(a.af.length:Int)
 rotate_left
 ·rw[aG h,decide_eq_false (λb=>h (by have:=b.2.1;omega))]
 have m:Fit a.Keys:=by show a.Keys.length<=_;have:a.af.length<=_:=k;omega
 have n:zw LC a.Keys=c7 (a.Keys.any λc=>!c5 (0<=c/\c<=2)):=by
  unfold zw F6;have:=fF (l:=a.Keys) (P:=λj=>zz LC j) (p:=λc=>!c5 (0<=c/\c<=2)) (f:=λg=>It LC a.Keys g) m (λj o=>by
   unfold zz;rw[cF,aa]) (λg=>rfl)
  rw[show(LC.loop (λg=>It LC a.Keys g) 0).bind _=_ from this,aa,gm]
 rw[aC h,n,aa,ot]
 by_cases d:∀c,c∈a.Keys->0<=c/\c<=2
 rotate_left
 ·rw[aG d,decide_eq_false (λb=>d b.2.2.1)]
 rw[aC d,QJ m,aa];cases i:a.Out with
 |false=>simp only[h7,cond_true];rw[decide_eq_true (show ff a from⟨e,by omega,d,λb=>by rw[i] at b;cases b⟩)]
 |true=>
  simp only[ee,cond_false]
  congr 1
  exact decide_eq_decide.2 ⟨λb=>⟨e,by omega,d,λ_=>b⟩,λb=>b.2.2.2 i⟩
theorem ff.sm{k:bA}(h:ff k):Sm k.af/\Sm k.Keys:=⟨cX (n:=12) (by have:=h.1.1;omega) (by decide),cX (n:=12) (by have:=h.1.1;have:=h.2.1;omega) (by decide)⟩
theorem Dx{k:bA}(i a b:Int)(j:Fit k.af):Ok (qO LC k i a b) λq=>(q.2≠0/\q.1=k)\/(q.2=0/\ff k/\0<=i/\k.Keys[i.toNat]? =c7 a/\k.Out=false/\q.1=⟨k.af,k.Keys.set i.toNat b,false⟩):=by
 unfold qO;rw[tA j,aa,de];refine aV (λc=>?_) (λ_=>ae (.inl ⟨by simp,rfl⟩))
 have l:=c.1.1;have m:=c.2.1;rw[aJ,cF,aa,de];refine aV (λf=>?_) (λ_=>ae (.inl ⟨by simp,rfl⟩))
 have d:k.Keys[i.toNat]? =c7 (k.Keys[i.toNat]'(by omega)):=c6 (by omega);generalize k.Keys[i.toNat]'(by omega)=v at d;have h:aj k.Keys i=c7 v:=by unfold aj;rw[if_pos f.1];exact d
 unfold IL;rw[h,aa,bV c.sm.1,aa,bV c.sm.2,aa,aa];dsimp only;rw[h,aa,d,aa]
 by_cases e:v≠a
 ·rw[aC e,aa];exact ae (.inl ⟨by simp,rfl⟩)
 ·rw[aG e,aa];refine dy (λ_=>ae (.inl ⟨by simp,rfl⟩)) (λg=>ae (.inr ⟨rfl,c,f.1,?_,g,by rw[g]⟩))
  rw[dv.1 e]
theorem ff.move{k:bA}(h:ff k){i:Nat}{b:Int}(c:0<=b/\b<=2):ff ⟨k.af,k.Keys.set i b,false⟩:=⟨h.1,by show(k.Keys.set i b).length=_;rw[d4];exact h.2.1,λn a=>by
 rcases e4 (show n∈k.Keys.set i b from a) with a |rfl
 ·exact h.2.2.1 n a
 ·exact c,λh=>by cases h⟩
theorem ap1{k:bA}(e:Fit k.af):Ok (Cu LC k) λq=>(q.2≠0/\q.1=k)\/(q.2=0/\ff k/\k.Out=false/\(∀a,a∈k.Keys->a=2)/\q.1=⟨k.af,k.Keys,true⟩):=by
 unfold Cu;refine aD (Q:=λq=>(q.2≠0/\q.1=k)\/(q.2=0/\ff k/\k.Out=false/\(∀a,a∈k.Keys->a=2)/\q.1=⟨k.af,k.Keys,true⟩)) ?_ λq d=>ae d
 unfold xi;rw[tA e,aa,de];refine aV (λb=>?_) (λ_=>ae (.inl ⟨by simp,rfl⟩))
 unfold EA;rw[QJ (by show k.Keys.length<=_;have:=jZ b.sm.2;omega),bV b.sm.1,bV b.sm.2];simp only[aa];cases f:k.Out with
 |true=>exact ae (.inl ⟨by simp,rfl⟩)
 |false=>
  simp only[cond_true,show(false==true)=false from rfl,cond_false,aa,de];exact aV (λc=>ae (.inr ⟨rfl,b,by simp,c,rfl⟩)) (λ_=>ae (.inl ⟨by simp,rfl⟩))
theorem Zw{k:bA}(b:Fit k.af):Ok (vQ LC k) λq=>(q.2≠0/\q.1=k)\/(q.2=0/\ff k/\q.1=⟨k.af,k.Keys,false⟩):=by
 unfold vQ;refine aD (Q:=λq=>(q.2≠0/\q.1=k)\/(q.2=0/\ff k/\q.1=⟨k.af,k.Keys,false⟩)) ?_ λq c=>ae c
 unfold xi;rw[tA b,aa,de];refine aV (λa=>?_) (λ_=>ae (.inl ⟨by simp,rfl⟩))
 unfold EA;rw[bV a.sm.1,bV a.sm.2];simp only[aa];cases d:k.Out with
 |false=>exact ae (.inl ⟨by simp,rfl⟩)
 |true=>
  simp only[show(true==false)=false from rfl,cond_false,aa];exact ae (.inr ⟨rfl,a,rfl⟩)
theorem O5{k:bA}(t:k.af.length<=100)(u:k.Keys.length<=100):Ok (yA LC k) λe=>e.length<=k.af.length/\∀r,r∈e↔∃(i:Nat) (n:Int),k.af[i]? =c7 r/\k.Keys[i]? =c7 n/\n≠0:=by
 unfold yA;refine aD (Q:=λe=>e.length<=k.af.length/\∀r,r∈e↔∃(i:Nat) (n:Int),k.af[i]? =c7 r/\k.Keys[i]? =c7 n/\n≠0) ?_ λe s=>?_
 ·refine di k.af.length (λi f=>f.2=(i:Int)/\f.1.length<=i/\∀r,r∈f.1↔∃(a:Nat) (n:Int),a<i/\k.af[a]? =c7 r/\k.Keys[a]? =c7 n/\n≠0) _ (λi f w p=>?_) (λf p=>?_) _ ⟨rfl,f1 _,λr=>⟨λd=>(by cases d),λ⟨a,n,d,_⟩=>by omega⟩⟩
  ·obtain⟨e,y⟩:=f;obtain⟨rfl,h,g⟩:=p;dsimp only at h g⊢;have m:k.af[i]? =c7 k.af[i]:=c6 w;generalize k.af[i]=z at m;unfold HU;rw[aC,bn,m,aa];have c:(bif c5 ((i:Int)<(k.Keys.length:Int)) then(aj k.Keys (i:Int)).bind λx=>c7 (c5 (x≠0)) else c7 false)=c7 (c5 (∃n,k.Keys[i]? =c7 n/\n≠0)):=by
    by_cases d:(i:Int)<(k.Keys.length:Int)
    ·have v:k.Keys[i]? =c7 (k.Keys[i]'(by omega)):=c6 (by omega);generalize k.Keys[i]'(by omega)=n at v;rw[aC d,bn,v,aa]
     congr 1
     exact decide_eq_decide.2 ⟨λq=>⟨n,rfl,q⟩,λ⟨A,c,q⟩=>by injection c with c;subst c;exact q⟩
    ·rw[aG d]
     congr 1
     exact(decide_eq_false λ⟨n,c,_⟩=>by rw[g6 (by omega)] at c;cases c).symm
   rw[c,aa]
   by_cases d:∃n,k.Keys[i]? =c7 n/\n≠0
   ·rw[aC d,dm (by decide) (by omega),aa,aa,aJ];refine ae ⟨rfl,by simp;omega,λr=>?_⟩
    dsimp only;rw[d6,g,d5]
    constructor
    ·rintro(⟨a,n,j,b⟩ |rfl)
     ·exact⟨a,n,by omega,b⟩
     ·obtain⟨n,t,u⟩:=d;exact⟨i,n,by omega,m,t,u⟩
    ·rintro⟨a,n,j,b,o,l⟩
     by_cases c:a=i
     ·subst c;rw[m] at b;injection b with b;exact .inr b.symm
     ·exact .inl ⟨a,n,by omega,b,o,l⟩
   ·rw[aG d,aa,aJ];refine ae ⟨rfl,by dsimp only;omega,λr=>?_⟩
    dsimp only;rw[g]
    constructor
    ·rintro⟨a,n,j,b⟩;exact⟨a,n,by omega,b⟩
    ·rintro⟨a,n,j,b,o,l⟩
     by_cases c:a=i
     ·subst c;exact absurd ⟨n,o,l⟩ d
     ·exact⟨a,n,by omega,b,o,l⟩
  ·obtain⟨e,y⟩:=f;obtain⟨rfl,h,g⟩:=p;dsimp only at h g⊢;unfold HU;rw[aG];refine ae ⟨h,λr=>?_⟩
   rw[g];exact⟨λ⟨a,n,j,b⟩=>⟨a,n,b⟩,λ⟨a,n,b⟩=>⟨a,n,(d2.1 b.1).1,b⟩⟩
 ·rw[zF (cX (n:=100) (by omega) (by decide)),aa];exact ae ⟨by rw[uP];exact s.1,λr=>by rw[(uK e).mem_iff];exact s.2 r⟩
def rR(a:cd):Prop:=a.bT.length≠0/\cj 0 63 a.bT/\(1<=a.dZ/\a.dZ<=100000)/\1<=a.ed/\a.ed<=100000
instance (a:cd):Decidable (rR a):=by unfold rR;infer_instance
def mW(a:b7):Prop:=(0<=a.Time/\a.Time<=2147483648)/\(if a.State=0 then a.dD=0/\a.Second=0/\a.Time=0 else if a.State=1 then 0<a.dD/\a.Second=0 else(a.State=2\/a.State=3\/a.State=4)/\0<a.dD/\0<a.Second/\a.dD≠a.Second)
instance (a:b7):Decidable (mW a):=by unfold mW;infer_instance
theorem AH{h:cd}{a:b7}(k:Fit h.bT):oT LC h a=c7 (c5 (rR h/\mW a)):=by
 unfold oT;rw[kw _ _ _ k,aa,cF,aa,cF,aa,cF,aa,lA,fh (fh (fh rfl)),ew rfl,aa]
 by_cases c:rR h/\0<=a.Time/\a.Time<=2147483648
 rotate_left
 ·rw[aC (by
   refine d3 λg=>c ?_
   simp only[not_or,dv] at g;exact⟨⟨by omega,g.2.1,g.2.2.1,g.2.2.2.1⟩,g.2.2.2.2⟩),decide_eq_false (λb=>c ⟨b.1,b.2.1⟩)]
 obtain⟨f,i⟩:=c;rw[aG (by
  have q:=f.1;rintro(b |b |b |b |b)
  ·omega
  ·exact b f.2.1
  ·exact b f.2.2.1
  ·exact b f.2.2.2
  ·exact b i)]
 have fin:∀(p:Prop) [Decidable p],((if a.State=0 then a.dD=0/\a.Second=0/\a.Time=0 else if a.State=1 then 0<a.dD/\a.Second=0 else(a.State=2\/a.State=3\/a.State=4)/\0<a.dD/\0<a.Second/\a.dD≠a.Second)↔p)->c7 (decide p)=c7 (c5 (rR h/\mW a)):=λp _ b=>by
  congr 1
  exact decide_eq_decide.2 ⟨λn=>⟨f,i,b.2 n⟩,λo=>b.1 o.2.2⟩
 by_cases h0:a.State=0
 ·rw[aC h0];rw[<-fin (a.dD=0/\a.Second=0/\a.Time=0) (by rw[if_pos h0])]
  congr 1
  rw[h0]
  by_cases l:a.dD=0 <;> by_cases d:a.Second=0 <;> by_cases e:a.Time=0 <;> simp[l,d,e]
 rw[aG h0]
 by_cases c:a.State=1
 ·rw[aC c];rw[<-fin (0<a.dD/\a.Second=0) (by rw[if_neg h0,if_pos c])];exact fm rfl
 rw[aG c];rw[<-fin ((a.State=2\/a.State=3\/a.State=4)/\0<a.dD/\0<a.Second/\a.dD≠a.Second) (by rw[if_neg h0,if_neg c])];have j:(bif c5 (a.State=2) then c7 (c5 (a.State=2)) else(bif c5 (a.State=3) then c7 (c5 (a.State=3)) else c7 (c5 (a.State=4))).bind λm=>c7 m)=c7 (c5 (a.State=2\/a.State=3\/a.State=4)):=by
  by_cases d:a.State=2
  ·rw[aC d,decide_eq_true d,decide_eq_true (.inl d)]
  ·rw[aG d]
   by_cases e:a.State=3
   ·rw[aC e,aa,decide_eq_true e,decide_eq_true (.inr (.inl e))]
   ·rw[aG e,aa]
    congr 1
    exact decide_eq_decide.2 ⟨λb=>.inr (.inr b),λb=>by omega⟩
 rw[j,aa];exact fm (fm (fm rfl))
def rz(c:cd)(a:bA)(b:aL):Prop:=rR c/\ff a/\a.Out=true/\b.aA≠[]/\D1 b c.bT
theorem aeN{d:cd}{c:bA}{b:aL}(f:Fit d.bT)(j:Fit c.af)(h:gF b):Ok (Ah LC d c b) λv=>v=true->rz d c b:=by
 unfold Ah;rw[AH f,aa];refine aV (λl=>?_) (λ_=>ae λa=>by cases a)
 rw[tA j,aa];refine aV (λg=>?_) (λ_=>ae λa=>by cases a)
 refine dy (λi=>?_) (λ_=>ae λa=>by cases a)
 refine aV (λe=>?_) (λ_=>ae λa=>by cases a)
 rw[Vo h f,aa];exact ae λa=>⟨l.1,g,i,λk=>by rw[k] at e;simp at e,of_decide_eq_true a⟩
theorem B5{r:jf}(c:Bool)(d:Fit r.x.bT)(e:Fit r.k.af)(g:gF r.b):Ok (si LC r c) λb=>b=0->mW r.s/\r.s.State=r.from_/\(r.s.Time<=r.t/\r.t<=2147483648)/\c=false/\rz r.x r.k r.b:=by
 unfold si;rw[AH d,aa,de];refine aV (λl=>?_) (λ_=>ae λa=>by cases a)
 refine aV (λ_=>ae λa=>by cases a) (λf=>?_)
 unfold zd;have b:(bif c5 (r.s.Time<=r.t) then c7 (c5 (r.t<=2147483648)) else c7 false)=c7 (c5 (r.s.Time<=r.t/\r.t<=2147483648)):=fm rfl;rw[b,aa,lA,ew rfl,aa];refine aV (λ_=>ae λa=>by cases a) (λm=>?_)
 refine dy (λ_=>ae λa=>by cases a) (λj=>?_)
 refine aD (Q:=λ_=>True) (aV (λ_=>ae trivial) (λ_=>ae trivial)) λh _=>?_
 refine dy (λ_=>ae λa=>by cases a) (λ_=>?_)
 rw[tA e,aa];refine aD (Q:=λ_=>True) (dy (λ_=>ae trivial) (λ_=>ae trivial)) λh _=>?_
 refine dy (λ_=>ae λa=>by cases a) (λ_=>?_)
 refine aD (aeN d e g) λv i=>?_
 rw[de];refine dy (λk=>ae λ_=>⟨l.2,dv.1 f,by omega,j,i k⟩) (λ_=>ae λa=>by cases a)
theorem ao0{x:cd}{s:b7}{k:bA}{b:aL}(f c:Int)(j:Fit x.bT)(l:Fit k.af)(h:gF b):Ok (BR LC x s k b f c) λq=>(q.2≠0/\q.1=s)\/(q.2=0/\mW q.1/\q.1.State=1/\rz x k b):=by
 unfold BR;refine aD (B5 (r:=jf.mk x s k b c 0) _ j l h) λo g=>?_
 refine aV (λa=>ae (.inl ⟨a,rfl⟩)) (λa=>?_)
 obtain⟨n,p,i,d,m⟩:=g (dv.1 a);have d:=of_decide_eq_false d;have e:=n.1;dsimp only at i e;exact ae (.inr ⟨rfl,⟨by dsimp only;omega,by rw[if_neg (by simp),if_pos rfl];exact⟨by dsimp only;omega,rfl⟩⟩,rfl,m⟩)
theorem ajE{x:cd}{s:b7}{k:bA}{b:aL}(h f:Int)(p:Fit x.bT)(o:Fit k.af)(m:gF b):Ok (AJ LC x s k b h f) λq=>(q.2≠0/\q.1=s)\/(q.2=0/\mW q.1/\q.1.State=2/\rz x k b):=by
 unfold AJ;refine aD (Q:=λa=>a=0->mW s/\s.State=1/\(s.Time<=f/\f<=2147483648)/\(0<h/\h≠s.dD)/\rz x k b) ?_ λa e=>?_
 ·refine aV (λd=>?_) (λd=>?_)
  ·refine aD (B5 (r:=jf.mk x s k b f 1) _ p o m) λa e=>ae λh0=>?_
   obtain⟨_,_,_,c,_⟩:=e h0;cases c
  ·refine aD (B5 (r:=jf.mk x s k b f 1) _ p o m) λa e=>ae λh0=>?_
   obtain⟨j,g,n,c,i⟩:=e h0;exact⟨j,g,n,⟨by omega,of_decide_eq_false c⟩,i⟩
 ·refine aV (λd=>ae (.inl ⟨d,rfl⟩)) (λd=>?_)
  obtain⟨j,g,n,c,i⟩:=e (dv.1 d);obtain⟨t,l⟩:=j;rw[if_neg (by omega),if_pos g] at l;exact ae (.inr ⟨rfl,⟨by dsimp only;omega,by rw[if_neg (by simp),if_neg (by simp)];exact⟨.inl rfl,l.1,c.1,λa=>c.2 a.symm⟩⟩,rfl,i⟩)
theorem X1{x:cd}{s:b7}{k:bA}{b:aL}(d:Int)(j:Bool)(m:Fit x.bT)(n:Fit k.af)(i:gF b):Ok (CM LC x s k b d j) λq=>(q.2≠0/\q.1=s)\/(q.2=0/\mW q.1/\(q.1.State=3\/q.1.State=4)/\rz x k b):=by
 unfold CM;refine aD (B5 (r:=jf.mk x s k b d 2) _ m n i) λo h=>?_
 refine aV (λa=>ae (.inl ⟨a,rfl⟩)) (λa=>?_)
 obtain⟨f,g,l,_,e⟩:=h (dv.1 a);dsimp only at f g l;obtain⟨p,c⟩:=f;rw[if_neg (by omega),if_neg (by omega)] at c;refine dy (λ_=>ae (.inr ⟨rfl,⟨by dsimp only;omega,?_⟩,.inr rfl,e⟩)) (λ_=>ae (.inr ⟨rfl,⟨by dsimp only;omega,?_⟩,.inl rfl,e⟩))
 ·rw[if_neg (by simp),if_neg (by simp)];exact⟨.inr (.inr rfl),c.2⟩
 ·rw[if_neg (by simp),if_neg (by simp)];exact⟨.inr (.inl rfl),c.2⟩
theorem Yc{x:cd}{s:b7}(b:Int)(c:Fit x.bT):Ok (BY LC x s b) λq=>(q.2≠0/\q.1=s)\/(q.2=0/\q.1=⟨0,0,0,0⟩):=by
 unfold BY;rw[AH c,aa,de];refine aV (λe=>?_) (λ_=>ae (.inl ⟨by simp,rfl⟩))
 refine aV (λ_=>ae (.inl ⟨by simp,rfl⟩)) (λd=>?_)
 refine aD (Q:=λ_=>True) (by unfold zd;exact aV (λ_=>ae trivial) (λ_=>ae trivial)) λa _=>?_
 rw[de];refine dy (λ_=>?_) (λ_=>ae (.inl ⟨by simp,rfl⟩))
 refine aD (Q:=λ_=>True) (aV (λ_=>ae trivial) (λ_=>ae trivial)) λa _=>?_
 exact dy (λ_=>ae (.inl ⟨by simp,rfl⟩)) (λ_=>ae (.inr ⟨rfl,rfl⟩))
theorem Xp:mW ⟨0,0,0,0⟩:=⟨by decide,by rw[if_pos rfl];exact⟨rfl,rfl,rfl⟩⟩
def kb(r:aT):Prop:=(0<=r.Reader/\r.Reader<=31)/\(0<=r.Number/\r.Number<=65535)/\(0<=r.Time/\r.Time<=2147483648)/\r.aw.length<=20/\cj 1 65535 r.aw
instance (r:aT):Decidable (kb r):=by unfold kb;infer_instance
theorem xF{r:aT}(e:Fit r.aw):lQ LC r=c7 (c5 (kb r)):=by
 unfold lQ;rw[cF,aa,cF,aa,cF,aa,kw _ _ _ e,aa,fm (fm (fm (fm rfl)))]
 congr 1
 apply decide_eq_decide.2
 unfold kb
 constructor
 ·rintro⟨d,a,b,f,c⟩;exact⟨d,a,b,by omega,c⟩
 ·rintro⟨d,a,b,f,c⟩;exact⟨d,a,b,by omega,c⟩
def fp(a:Int):Nat->List Int
 |0=>[]
 |b+1=>(a/256^b%256)::fp a b
theorem ly(b:Int):∀a,(fp b a).length=a
 |0=>rfl
 |a+1=>by unfold fp;rw[e5,ly b a]
theorem AO(b:Int):∀a,Bytes (fp b a)
 |0=>Bytes.nil
 |a+1=>by unfold fp;exact Bytes.cons (by omega) (AO b a)
theorem Qv:∀i:Nat,(2:Int)^ (8*i)=256^i
 |0=>rfl
 |i+1=>by rw[show 8*(i+1)=8*i+8 by omega,Int.pow_add,Qv i,Int.pow_succ];rfl
theorem IY(i:Nat):(0:Int)<256^i:=Int.pow_pos (by decide)
theorem put_eq(c:Int)(h0:0<=c)(n:c<=18446744073709551615):∀(a:Nat) (b:List Int),a<=8->b.length<=1000->py LC b c (a:Int)=c7 (b++fp c a):=by
 intro a b e g;unfold py;have j:∀(a:Nat) (b:List Int),a<=8->b.length<=1000+(8 -a)->bO (λd:List Int×Int=>vM LC c d.1 d.2) (b,(a:Int) -1)=c7 (b++fp c a):=by
  intro a
  induction a with
  |zero=>
   intro b _ _;refine fZ ?_
   dsimp only;unfold vM;rw[aG];simp[fp]
  |succ a f=>
   intro b e g;have l:=IY a;have h:iN .u64 c (g0.wrap (c3 c4 (8*(((a+1:Nat):Int) -1))))=c7 (c/256^a):=by
    rw[show 8*(((a+1:Nat):Int) -1)=((8*a:Nat):Int) by omega,aJ,mB (by omega) (by omega),AD (by omega),d1,Nat.min_eq_left (show 8*a<=g0.bits by show 8*a<=64;omega),Qv,g7 _ (by omega)]
   have k:0<=c/256^a:=Int.ediv_nonneg h0 (by omega);have m:c/256^a<=c:=Int.ediv_le_self _ h0;have i:IntKind.u8.wrap (c/256^a)=c/256^a%256:=by
    unfold IntKind.wrap;simp[IntKind.bits,IntKind.signed]
   rw[iO (a':=(b++[c/256^a%256],(a:Int) -1))]
   ·rw[f _ (by omega) (by simp;omega),f6]
    rfl
   ·dsimp only;unfold vM;rw[aC,h,aa,i,dm (by decide) (by omega),aa,aJ]
    congr 3
    omega
 have:=j a b e (by omega);rw[aJ,show LC.loop (λd:List Int×Int=>vM LC c d.1 d.2) (b,(a:Int) -1)=_ from this,aa]
def l7(a:List Int):Int:=a.foldl (λc b=>c*256+b) 0
theorem VV(c b:Int)(h0:0<=c)(g:c*256+255<=18446744073709551615)(f:0<=b/\b<=255):bits .or .u64 (c*256) b=c*256+b:=by
 obtain⟨a,rfl⟩:=gv h0;obtain⟨d,rfl⟩:=gv f.1;have e:(a:Int)*256=((a*256:Nat):Int):=by omega
 rw[e];show g0.wrap ((hS 64 ((a*256:Nat):Int) ||| hS 64 (d:Int)).toNat:Int)=_
 rw[BitVec.toNat_or,g8,g8,gt,gt,hu (by omega),hu (by omega)];have:a*256 ||| d=a*256+d:=by
  have:=Nat.shiftLeft_add_eq_or_of_lt (i:=8) (b:=d) (by omega) a;rw[Nat.shiftLeft_eq] at this;exact this.symm
 rw[this,mB (by omega) (by omega)];omega
theorem L8:∀(c:List Int) (a:Int),Bytes c->0<=a->0<=c.foldl (λa b=>a*256+b) a/\c.foldl (λa b=>a*256+b) a<(a+1)*256^c.length
 |[],a,_,f=>by simp only[List.foldl_nil,fd,Int.pow_zero,Int.mul_one];omega
 |d::c,a,e,f=>by
  have k:=e d (by simp);obtain⟨j,g⟩:=L8 c (a*256+d) (λi h=>e i (by simp[h])) (by omega);rw[List.foldl_cons,e5,Int.pow_succ];refine⟨j,Int.lt_of_lt_of_le g ?_⟩
  have l:=IY c.length;have:(a*256+d+1)*256^c.length<=((a+1)*256)*256^c.length:=Int.mul_le_mul_of_nonneg_right (by omega) (by omega);rw[Int.mul_assoc] at this;rw[Int.mul_comm (256^c.length) 256];exact this
theorem FY(a:List Int)(d:Bytes a)(s:a.length<=7):jQ LC a=c7 (l7 a):=by
 unfold jQ;have j:=nV (f:=λg:Int×Int=>zf LC a g.1 g.2) a.length (λi=>(l7 (a.take i),(i:Int))) (l7 a) (λi c=>by
  dsimp only;have e:=d _ (d0 c);have b:=c6 c;generalize a[i]=h at e b;have l:=L8 (a.take i) 0 (d.take i) (ec 0);have k:(a.take i).length=i:=by rw[d9];omega
  rw[k] at l;have r:(256:Int)^i<=256^6:=by
   have:=Nat.pow_le_pow_right (show 256>0 by decide) (show i<=6 by omega);have t:((256^i:Nat):Int)=(256:Int)^i:=by rw[Int.natCast_pow];rfl
   have p:((256^6:Nat):Int)=(256:Int)^6:=by rw[Int.natCast_pow];rfl
   omega
  have q:(256:Int)^6=281474976710656:=rfl;have m:0<=l7 (a.take i)/\l7 (a.take i)<281474976710656:=by unfold l7;omega
  unfold zf;rw[aC,bn,b,aa,ahO (by omega),show(2:Int)^ (min (8:Int).toNat g0.bits)=256 from rfl,mB (n:=l7 (a.take i)*256) (by omega) (by omega),aa,mB (n:=h) (by omega) (by omega),VV _ _ m.1 (by omega) e,aJ];have o:l7 (a.take (i+1))=l7 (a.take i)*256+h:=by
   unfold l7;rw[iE b,List.foldl_append]
   rfl
  rw[o]
  rfl) (by
  dsimp only;unfold zf;rw[aG,ev])
 exact dL j
theorem SS(c:Int)(h0:0<=c):∀(a:Nat) (d:Int),(fp c a).foldl (λd b=>d*256+b) d=d*256^a+c%256^a
 |0,d=>by simp[fp]
 |a+1,d=>by
  unfold fp;rw[List.foldl_cons,SS c h0 a,Int.pow_succ,Int.add_mul];have l:=IY a;have g:c%(256^a*256)=c/256^a%256*256^a+c%256^a:=by
   have e:=h9 c (256^a*256);have j:=h9 c (256^a);have h:=h9 (c/256^a) 256;have i:c/ (256^a*256)=c/256^a/256:=(Int.ediv_ediv_of_nonneg (by omega)).symm;rw[i] at e;have f:256^a*256*(c/256^a/256)=256^a*(256*(c/256^a/256)):=Int.mul_assoc _ _ _;rw[f] at e;have k:256^a*(c/256^a)=256^a*(c/256^a%256)+256^a*(256*(c/256^a/256)):=by rw[<-Int.mul_add,h]
   have m:c/256^a%256*256^a=256^a*(c/256^a%256):=Int.mul_comm _ _;omega
  rw[g,Int.mul_assoc,Int.mul_comm 256 (256^a)];omega
theorem IV{n:Int}{k:Nat}(h0:0<=n)(a:n<256^k):l7 (fp n k)=n:=by
 unfold l7;rw[SS n h0,Int.zero_mul,Int.zero_add,Int.emod_eq_of_lt h0 a]
def jI(a:List Int):List Int:=a.flatMap λb=>fp b 2
def jr(r:aT):List Int:=fp r.Number 2++fp r.Time 6++[(r.aw.length:Int)]++jI r.aw
theorem Gp(a:List Int):(jI a).length=2*a.length:=by
 induction a with
 |nil=>rfl
 |cons c a b=>unfold jI at b⊢;rw[List.flatMap_cons,dT,b,ly,e5];omega
theorem WJ{r:aT}(o:Fit r.aw):Ex LC r=if kb r then c7 (⟨r.Reader,9,jr r⟩,0) else c7 (⟨0,0,[]⟩,6):=by
 unfold Ex;rw[xF o,aa,de]
 by_cases a:kb r
 rotate_left
 ·rw[aG a,if_neg a]
 rw[aC a,if_pos a];obtain⟨u,j,l,v,s⟩:=a;have p:=put_eq r.Number j.1 (by omega) 2 [] (by decide) (by simp);have g:=put_eq r.Time l.1 (by omega) 6 (fp r.Number 2) (by decide) (by rw[ly];omega);rw[mB (n:=r.Number) (by omega) (by omega),show py LC [] r.Number 2=_ from p,aa,mB (n:=r.Time) (by omega) (by omega),List.nil_append,show py LC (fp r.Number 2) r.Time 6=_ from g,aa,w8 (by omega) (by omega),dm (by decide) (by simp only[dT,ly];omega),aa];have h:=nV (f:=λb:List Int×Int=>wg LC r b.1 b.2) r.aw.length (λi=>(fp r.Number 2++fp r.Time 6++[(r.aw.length:Int)]++jI (r.aw.take i),(i:Int))) (jr r) (λi e=>by
  dsimp only;have q:=s.mem (d0 e);have d:=c6 e;generalize r.aw[i]=c at q d;unfold wg;have t:=put_eq c (by omega) (by omega) 2 (fp r.Number 2++fp r.Time 6++[(r.aw.length:Int)]++jI (r.aw.take i)) (by decide) (by simp only[dT,ly,Gp,d9,e5,fd];omega);rw[aC,bn,d,aa,mB (n:=c) (by omega) (by omega),show py LC _ c 2=_ from t,aa,aJ];have k:jI (r.aw.take (i+1))=jI (r.aw.take i)++fp c 2:=by
   unfold jI;rw[iE d,List.flatMap_append];simp
  rw[k,f6 (_++_++_) (jI _)]
  rfl) (by
  dsimp only;unfold wg;rw[aG,ev]
  rfl)
 have m:LC.loop (λb:List Int×Int=>wg LC r b.1 b.2) (fp r.Number 2++fp r.Time 6++[(r.aw.length:Int)],0)=c7 (jr r):=by
  have:=h;simpa[jI] using this
 rw[m,aa]
theorem WL(r:aT):(jr r).length=9+2*r.aw.length:=by
 unfold jr;simp only[dT,ly,Gp,e5,fd]
theorem Pl:∀a:List Int,lj (jI a)=a.map λb=>fp b 2
 |[]=>rfl
 |b::a=>by
  unfold jI;rw[List.flatMap_cons,hB];have c:fp b 2=[b/256^1%256,b/256^0%256]:=rfl;rw[c];show lj (_::_::jI a)=_
  rw[lj,Pl a]
theorem Nc:∀(b:List Int) (c:List Int),(∀a,a∈b->1<=a/\a<=65535)->c.length+b.length<=100->gW LC (b.map λa=>fp a 2) c=c7 (c++b)
 |[],c,_,_=>by simp[gW]
 |a::b,c,d,e=>by
  have h:=d a (by simp);rw[e5] at e;rw[hB,gW,FY _ (AO a 2) (by rw[ly];decide),aa,IV (by omega) (by omega),aJ,dm (by decide) (by omega),aa,Nc b _ (λg f=>d g (by simp[f])) (by simp;omega),f6]
  rfl
theorem anb{r:aT}(a:kb r):zD LC ⟨r.Reader,9,jr r⟩=c7 (r,0):=by
 have m:=a;obtain⟨o,e,g,s,h⟩:=a;have q:=WL r;unfold zD;dsimp only;rw[aG (λj=>j rfl),cF,aa,de,aC o];have d:aj (jr r) 8=c7 (r.aw.length:Int):=by
  rw[show(8:Int)=((8:Nat):Int) from rfl,bn];unfold jr;rw[f6,f6,ea (by rw[ly];decide),ly,ea (by rw[ly];decide),ly]
  rfl
 rw[d,aa];have l:(bif c5 (((jr r).length:Int)<9) then c7 true else c7 (c5 (((jr r).length:Int)≠c3 c4 (9+c3 c4 (2*c3 c4 (r.aw.length:Int))))))=c7 false:=by
  rw[aG,aJ (n:=(r.aw.length:Int)),aJ (n:=2*(r.aw.length:Int)),aJ,decide_eq_false (by omega)]
 rw[l,aa];simp only[cond_false];have b:eG (jr r) 0 2=c7 (fp r.Number 2):=by
  rw[l8 (by omega) (by omega) (by omega)];unfold jr;simp[fp]
 have c:eG (jr r) 2 8=c7 (fp r.Time 6):=by
  rw[l8 (by omega) (by omega) (by omega)];unfold jr;simp[fp]
 have f:eG (jr r) 9 ((jr r).length:Int)=c7 (jI r.aw):=by
  rw[l8 (by omega) (by omega) (by omega),d1,ev];unfold jr;simp[fp]
 rw[b,aa,FY _ (AO _ _) (by rw[ly];decide),aa,c,aa,FY _ (AO _ _) (by rw[ly];decide),aa,f,aa];have i:vE LC (jI r.aw) 2=c7 (jI r.aw,2):=by unfold vE;rw[aG (by decide)]
 rw[i,aa,IV (n:=r.Number) (k:=2) e.1 (by omega),IV (n:=r.Time) (k:=6) g.1 (by show r.Time<281474976710656;omega),aJ (n:=r.Number),aJ (n:=r.Time)];unfold rA;dsimp only;rw[aC rfl,aC (by rw[Gp];omega),Pl,Nc _ _ (λt p=>h.mem p) (by simp;omega),aa,List.nil_append,xF (by show r.aw.length<=_;omega),aa,de];rw[aC (show kb ⟨r.Reader,r.Number,r.Time,r.aw⟩ from m)]
theorem abN{x:cZ}{r:aT}(B:Sm x.dl)(E:Sm x.dr)(C:Fit r.aw):Ok (CT LC x r) λq=>q.1.dl.length=x.dl.length/\q.1.dr.length=x.dr.length/\(q.2≠0->q.1=x):=by
 unfold CT;have G:∃b,zY LC x=c7 b/\(b=true->x.dl.length=32/\x.dr.length=32/\(∀n,n∈x.dl->-1<=n/\n<=65535)/\∀n,n∈x.dr->0<=n/\n<=2147483648):=by
  unfold zY
  by_cases k:(x.dl.length:Int)=32
  rotate_left
  ·rw[aG k];exact⟨false,rfl,λa=>by cases a⟩
  by_cases t:(x.dr.length:Int)=32
  rotate_left
  ·rw[aC k,aG t];exact⟨false,rfl,λa=>by cases a⟩
  have j:Am LC x.dl=c7 (x.dl.any λn=>!c5 (-1<=n/\n<=65535)):=by
   unfold Am GR;have:=fF (l:=x.dl) (P:=λd=>Ap LC d) (p:=λn=>!c5 (-1<=n/\n<=65535)) (f:=λc=>I8 LC x.dl c) (by omega) (λd I=>by
    unfold Ap;rw[cF,aa]) (λc=>rfl)
   rw[show(LC.loop (λc=>I8 LC x.dl c) 0).bind _=_ from this,aa,gm]
  have g:CZ LC x.dr=c7 (x.dr.any λn=>!c5 (0<=n/\n<=2147483648)):=by
   unfold CZ JV;have:=fF (l:=x.dr) (P:=λd=>Dd LC d) (p:=λn=>!c5 (0<=n/\n<=2147483648)) (f:=λc=>FL LC x.dr c) (by omega) (λd I=>by
    unfold Dd;rw[cF,aa]) (λc=>rfl)
   rw[show(LC.loop (λc=>FL LC x.dr c) 0).bind _=_ from this,aa,gm]
  rw[aC k,aC t,j,aa,ot,g,aa,ot]
  by_cases m:∀n,n∈x.dl->-1<=n/\n<=65535
  ·rw[aC m];exact⟨_,rfl,λa=>⟨by omega,by omega,m,of_decide_eq_true a⟩⟩
  ·rw[aG m];exact⟨false,rfl,λa=>by cases a⟩
 obtain⟨b,j,g⟩:=G;rw[j,aa,de];refine dy (λA=>?_) (λ_=>ae ⟨rfl,rfl,λ_=>rfl⟩)
 obtain⟨J,K,D,z⟩:=g A;rw[xF C,aa,de];refine aV (λw=>?_) (λ_=>ae ⟨rfl,rfl,λ_=>rfl⟩)
 obtain⟨o,S,L,M,N⟩:=w;have i:x.dl[r.Reader.toNat]? =c7 (x.dl[r.Reader.toNat]'(by omega)):=c6 (by omega);have F:=D _ (d0 (show r.Reader.toNat<x.dl.length by omega));generalize x.dl[r.Reader.toNat]'(by omega)=e at i F;have h:x.dr[r.Reader.toNat]? =c7 (x.dr[r.Reader.toNat]'(by omega)):=c6 (by omega);have H:=z _ (d0 (show r.Reader.toNat<x.dr.length by omega));generalize x.dr[r.Reader.toNat]'(by omega)=d at h H;have s:aj x.dl r.Reader=c7 e:=by unfold aj;rw[if_pos o.1];exact i
 have u:aj x.dr r.Reader=c7 d:=by unfold aj;rw[if_pos o.1];exact h
 have y:=abO (v:=r.Number -e+65536) (n:=65536) (by omega) (by decide);rw[s,aa,aJ (n:=r.Number -e),aJ (n:=r.Number -e+65536),D7 (by omega),aa];generalize (r.Number -e+65536).tmod 65536=O at y;refine aD (Q:=λ_=>True) (aV (λ_=>aV (λ_=>ae trivial) (λ_=>ae trivial)) (λ_=>ae trivial)) λR _=>?_
 refine dy (λ_=>ae ⟨rfl,rfl,λ_=>rfl⟩) (λ_=>?_)
 rw[bV B,aa,bV E,aa,s,aa,i,aa];refine aV (λ_=>?_) (λ_=>ae ⟨by dsimp only;rw[d4],rfl,λa=>absurd rfl a⟩)
 rw[u,aa,h,aa,aa,aa];exact ae ⟨by dsimp only;rw[d4],by dsimp only;rw[d4],λa=>absurd rfl a⟩
where abO {v n:Int} (h0:0<=v) (hn:1<=n):0<=v.tmod n/\v.tmod n<n:=⟨Int.tmod_nonneg n h0,Int.tmod_lt_of_pos v (by omega)⟩
theorem Xo{l:List aS}{r:aT}(v:Fit r.aw)(o:∀a,a∈l->0<=a.cR/\a.cR<=60):Ok (Bl LC l r) λq=>q.1.length<=20/\(q.2=0->kb r/\∃a,l[r.Reader.toNat]? =c7 a/\∀b,b∈q.1->b.Tag∈r.aw/\b.an=max 0 (r.Time -a.cR)/\b.To=r.Time+a.cR):=by
 unfold Bl;rw[xF v,aa,de];refine aV (λm=>?_) (λ_=>ae ⟨by simp,λe=>by cases e⟩)
 refine aV (λ_=>ae ⟨by simp,λe=>by cases e⟩) (λA=>?_)
 obtain⟨j,x,s,k,t⟩:=m;have g:l[r.Reader.toNat]? =c7 (l[r.Reader.toNat]'(by omega)):=c6 (by omega);have p:=o _ (d0 (show r.Reader.toNat<l.length by omega));generalize l[r.Reader.toNat]'(by omega)=a at g p;have w:aj l r.Reader=c7 a:=by unfold aj;rw[if_pos j.1];exact g
 rw[w,aa];have z:=jm (f:=λb:List dS×Int=>Dq LC r a b.1 b.2) r.aw (λc i=>(c.map λd=>dS.mk r.Reader d (max 0 (r.Time -a.cR)) (r.Time+a.cR),i)) (λc=>c.map λd=>dS.mk r.Reader d (max 0 (r.Time -a.cR)) (r.Time+a.cR)) (λc C B h=>by
  dsimp only;unfold Dq;have:=iy h;rw[aC (iy h),jg h,aa,aJ (n:=r.Time -a.cR),aJ (n:=r.Time+a.cR),dm (by decide) (by rw[e6];omega),aa,aJ,f9]
  rfl) (by
  dsimp only;unfold Dq;rw[aG])
 refine c8 z ?_
 refine ae ⟨by rw[e6];exact k,λ_=>⟨⟨j,x,s,k,t⟩,a,g,λb y=>?_⟩⟩
 obtain⟨d,u,rfl⟩:=gy.1 y;exact⟨u,rfl,rfl⟩
def jX(d:List aT)(f e:Int)(run:List aT):Prop:=(∀r,r∈run->r∈d/\r.Reader=f/\e∉r.aw)/\∀(a:Nat) c b,run[a]? =c7 c->run[a+1]? =c7 b->b.Number=(c.Number+1).tmod 65536
def nc(e:List aT)(g f:Int)(a:aS)(b:dC):Prop:=∃run d c,jX e g f run/\run[0]? =c7 d/\run[run.length -1]? =c7 c/\b.an=d.Time+a.cR/\b.To=c.Time -a.cR
theorem anm{rd:aS}{a b:aT}(d:0<=a.Number/\a.Number<=65535):Ok (xH LC rd a b) λv=>v=true->b.Number=(a.Number+1).tmod 65536:=by
 unfold xH;rw[aJ,D7 (by omega),aa];refine aV (λc=>?_) (λ_=>ae λc=>by cases c)
 exact aV (λ_=>ae λ_=>c) (λ_=>ae λc=>by cases c)
theorem GX{f run:List aT}{a:aS}{d c:Int}{out:List dC}(s:∀r,r∈f->kb r)(A:0<=a.cR/\a.cR<=60)(m:jX f d c run)(w:run.length<=400)(x:out.length<=1000)(o:∀b,b∈out->nc f d c a b):
 ∃k,yG LC run a d c out=c7 (pC run a d c [] k)/\xD LC run a d c out=c7 (u32 [] a k d c)/\k.length<=out.length+1/\∀b,b∈k->nc f d c a b:=by
 unfold yG xD
 by_cases g:1<(run.length:Int)
 rotate_left
 ·rw[aG g,aG g];exact⟨out,rfl,rfl,by omega,o⟩
 rw[aC g,aC g];have h:run[0]? =c7 (run[0]'(by omega)):=c6 (by omega);have q:=s _ (m.1 _ (d0 (show 0<run.length by omega))).1;have p:run[run.length -1]? =c7 (run[run.length -1]'(by omega)):=c6 (by omega);have t:=s _ (m.1 _ (d0 (show run.length -1<run.length by omega))).1;generalize run[0]'(by omega)=i at h q;generalize run[run.length -1]'(by omega)=l at p t;have u:aj run 0=c7 i:=by rw[show(0:Int)=((0:Nat):Int) from rfl,bn];exact h
 have v:c3 c4 ((run.length:Int) -1)=((run.length -1:Nat):Int):=by rw[aJ];omega
 have y:=q.2.2.1;have z:=t.2.2.1;rw[v,bn,d1,show(0:Int).toNat=0 from rfl,u,h,p];simp only[aa];rw[aJ (n:=i.Time+a.cR),aJ (n:=l.Time -a.cR)]
 by_cases j:i.Time+a.cR<l.Time -a.cR
 ·rw[aC j,aC j,dm (by decide) (by omega),aa,aa];refine⟨_,rfl,rfl,by simp,λb e=>?_⟩
  rcases d6.1 e with e |e
  ·exact o b e
  ·rw[d5] at e;subst e;exact⟨run,i,l,m,h,p,rfl,rfl⟩
 ·rw[aG j,aG j];exact⟨out,rfl,rfl,by omega,o⟩
theorem jX.nil{a:List aT}{k tag:Int}:jX a k tag []:=⟨λr h=>(by cases h),λd x c h=>by simp at h⟩
theorem jX.snoc{j run:List aT}{k tag:Int}{r:aT}(h:jX j k tag run)(t:r∈j)(n:r.Reader=k)(o:tag∉r.aw)(s:∀x,run[run.length -1]? =c7 x->0<run.length->r.Number=(x.Number+1).tmod 65536):jX j k tag (run++[r]):=by
 refine⟨λx a=>?_,λd x l a c=>?_⟩
 ·rcases d6.1 a with a |a
  ·exact h.1 x a
  ·rw[d5] at a;subst a;exact⟨t,n,o⟩
 ·by_cases e:d+1<run.length
  ·rw[ez (by omega)] at a c;exact h.2 d x l a c
  ·have m:d+1=run.length:=by
    have:=(d2.1 c).1;simp at this;omega
   rw[ez (by omega)] at a;rw[ea (by omega),m,gx] at c;have c:r=l:=by simpa using c
   subst c;exact s x (by rw[<-m,Nat.add_sub_cancel];exact a) (by omega)
theorem ag3{rs:List aS}(c d:Int)(l:List aT)(Y:∀rd,rd∈rs->0<=rd.cR/\rd.cR<=60)(M:∀r,r∈l->Fit r.aw):Ok (xp LC rs c d l) λq=>q.1.length<=1000/\(q.2=0->0<=c/\∃rd,rs[c.toNat]? =c7 rd/\∀a,a∈q.1->nc l c d rd a):=by
 unfold xp;refine aV (λ_=>ae ⟨by simp,λm=>by cases m⟩) (λao=>?_)
 have am:Ad LC l=c7 (l.any λr=>!c5 (kb r)):=by
  unfold Ad GJ;have:=fF (l:=l) (P:=λs=>Ai LC s) (p:=λr=>!c5 (kb r)) (f:=λo=>I4 LC l o) (by omega) (λs I=>by
   unfold Ai;rw[xF (M s I),aa]) (λo=>rfl)
  rw[show(LC.loop (λo=>I4 LC l o) 0).bind _=_ from this,aa,gm]
 rw[am,aa,HA];refine aV (λ_=>ae ⟨by simp,λm=>by cases m⟩) (λt=>?_)
 have t:∀r,r∈l->kb r:=Classical.byContradiction t;rw[ew rfl,aa];refine aV (λ_=>ae ⟨by simp,λm=>by cases m⟩) (λar=>?_)
 rw[cF,aa,de];refine aV (λaq=>?_) (λ_=>ae ⟨by simp,λm=>by cases m⟩)
 have B:rs[c.toNat]? =c7 (rs[c.toNat]'(by omega)):=c6 (by omega);have A:=Y _ (d0 (show c.toNat<rs.length by omega));generalize rs[c.toNat]'(by omega)=rd at B A;have ak:aj rs c=c7 rd:=by unfold aj;rw[if_pos (by omega)];exact B
 rw[ak,aa];refine aD (Q:=λe=>∃run out,e=qA c d rd run out/\jX l c d run/\run.length<=l.length/\out.length<=l.length/\∀a,a∈out->nc l c d rd a) ?_ λe j=>?_
 ·refine di l.length (λi o=>∃out run,o=vI c d rd out run (i:Int)/\jX l c d run/\run.length<=i/\out.length<=i/\∀a,a∈out->nc l c d rd a) _ (λi o J C=>?_) (λo C=>?_) _ ⟨[],[],rfl,jX.nil,f1 _,f1 _,λa ah=>by cases ah⟩
  ·obtain⟨out,run,rfl,k,E,F,n⟩:=C;have O:l[i]? =c7 l[i]:=c6 J;have y:=d0 J;generalize l[i]=h at O y;have ap:=t h y;show Ok (vj LC l c d rd out run (i:Int)) _
   unfold vj;rw[aC,bn,O,aa];have fin:∀(e:pg) g v,e=ql c d rd g v->jX l c d v->v.length<=i+1->g.length<=i+1->(∀a,a∈g->nc l c d rd a)->Ok (c7 (hP (vI (Jw e) (KY e) (Kd e) (FE e) (vh e) (c3 c4 ((i:Int)+1))))) λe:oI⊕qt=>match e with
    | .inl T=>∃out run,T=vI c d rd out run ((i+1:Nat):Int)/\jX l c d run/\run.length<=i+1/\out.length<=i+1/\∀a,a∈out->nc l c d rd a
    | .inr e=>∃run out,e=qA c d rd run out/\jX l c d run/\run.length<=l.length/\out.length<=l.length/\∀a,a∈out->nc l c d rd a:=λe g v j ad ag ab ac=>by
    subst j;rw[aJ];exact ae ⟨g,v,rfl,ad,ag,ab,ac⟩
   by_cases G:h.Reader≠c
   ·rw[aC G,aa];exact gh (fin _ out run rfl k (by omega) (by omega) n) λe j=>by cases e <;> exact j
   ·rw[aG G];have L:h.Reader=c:=dv.1 G;rw[contains_eq (M h y),aa]
    by_cases z:d∈h.aw
    ·rw[aC z];obtain⟨g,w,_,K,x⟩:=GX t A k (by omega) (by omega) n;rw[w,aa];dsimp only;rw[aa];exact gh (fin _ g [] rfl jX.nil (by simp) (by omega) x) λe j=>by cases e <;> exact j
    ·rw[aG z];have Z:∃s,(bif c5 (0<(run.length:Int)) then(aj run (c3 c4 ((run.length:Int) -1))).bind λ_=>(run[(c3 c4 ((run.length:Int) -1)).toNat]?).bind λan=>(xH LC rd an h).bind λV=>c7 (!V) else c7 false)=c7 s/\(s=false->∀u,run[run.length -1]? =c7 u->0<run.length->h.Number=(u.Number+1).tmod 65536):=by
      by_cases h0:0<(run.length:Int)
      ·have ai:c3 c4 ((run.length:Int) -1)=((run.length -1:Nat):Int):=by rw[aJ];omega
       have N:run[run.length -1]? =c7 (run[run.length -1]'(by omega)):=c6 (by omega);have R:=t _ (k.1 _ (d0 (show run.length -1<run.length by omega))).1;generalize run[run.length -1]'(by omega)=u at N R;obtain⟨b,W,U⟩:=anm (rd:=rd) (a:=u) (b:=h) R.2.1;rw[aC h0,ai,bn,d1,N,aa,aa,W,aa];refine⟨!b,rfl,λI au D _=>?_⟩
       injection D with D
       subst D;exact U (by simpa using I)
      ·rw[aG h0];exact⟨false,rfl,λ_ u _ m=>absurd (by omega) h0⟩
     obtain⟨s,af,al⟩:=Z;rw[af,aa];cases s with
     |true=>
      obtain⟨g,w,_,K,x⟩:=GX t A k (by omega) (by omega) n;simp only[cond_true];rw[w,aa];rw[aa];have H:bj 48 (vh (ql (KG (pC run rd c d [] g)) (FU (pC run rd c d [] g)) (Fp (pC run rd c d [] g)) (GM (pC run rd c d [] g)) (Hz (pC run rd c d [] g)))) [h]=c7 ([]++[h]):=dm (by decide) (by show([]:List aT).length<=_;simp);rw[H,aa,aa];exact gh (fin _ g ([]++[h]) rfl (jX.nil.snoc y L z λu X=>by simp at X) (by simp) (by omega) x) λe j=>by cases e <;> exact j
     |false=>
      simp only[cond_false];rw[aa];have H:bj 48 (vh (ql c d rd out run)) [h]=c7 (run++[h]):=dm (by decide) (by show run.length<=_;omega);rw[H,aa,aa];exact gh (fin _ out (run++[h]) rfl (k.snoc y L z (al rfl)) (by simp;omega) (by omega) n) λe j=>by cases e <;> exact j
  ·obtain⟨out,run,rfl,k,E,F,n⟩:=C;show Ok (vj LC l c d rd out run (l.length:Int)) _
   unfold vj;rw[aG];exact ae ⟨run,out,rfl,k,E,F,n⟩
 ·obtain⟨run,out,rfl,k,E,F,n⟩:=j;obtain⟨g,_,w,K,x⟩:=GX t A k (by omega) (by omega) n;have S:xD LC (Mb (qA c d rd run out)) (MT (qA c d rd run out)) (LJ (qA c d rd run out)) (Tn (qA c d rd run out)) (N2 (qA c d rd run out))=c7 (u32 [] rd g c d):=w;dsimp only;rw[S,aa];exact ae ⟨by show g.length<=1000;omega,λ_=>⟨by omega,rd,B,x⟩⟩
theorem LV{a:aS}(d:0<=a.dY/\a.dY<=10)(c:1<=a.dX/\a.dX<=600):Dh LC a=c7 ((a.dY+1)*a.dX):=by
 unfold Dh;have e:0<=(a.dY+1)*a.dX:=Int.mul_nonneg (by omega) (by omega);have b:(a.dY+1)*a.dX<=11*600:=Int.mul_le_mul (by omega) c.2 (by omega) (by decide);rw[aJ (n:=a.dY+1),aJ]
theorem Hs{o:Type}{z:o}{c:List o}(S:c.length<=1000000){E:o->Option Bool}{p:o->Bool}(M:∀a,a∈c->E a=c7 (p a)){f:List o×Int×Int->Option ((List o×Int×Int)⊕(List o×Int))}
 (C:∀e i g,f (e,i,g)=bif c5 (g<(e.length:Int)) then(aj e g).bind λ_=>(e[g.toNat]?).bind λa=>(E a).bind λG=>(bif (!G) then(aj e i).bind λ_=>(e[i.toNat]?).bind λ_=>c7 (e.set i.toNat a,c3 c4 (i+1)) else c7 (e,i)).bind λd=>c7 (.inl (d.1,d.2,c3 c4 (g+1))) else c7 (.inr (e,i))):
 (bif c5 (gg p c= -1) then c7 c else(bO f (c,gg p c,c3 c4 (gg p c+1))).bind λd=>(eG d.1 d.2 (d.1.length:Int)).bind λ_=>(eG (X.iG z d.2.toNat ((d.1.length:Int).toNat -d.2.toNat) d.1) 0 d.2).bind λa=>c7 a)=c7 (c.filter λa=>!p a):=by
 by_cases h0:gg p c= -1
 ·rw[aC h0]
  congr 1
  symm
  refine List.filter_eq_self.2 λa l=>?_
  cases m:p a with
  |false=>rfl
  |true=>exact absurd (Aw.2 ⟨a,l,m⟩) (by omega)
 rw[aG h0];have L:0<=gg p c:=by
  unfold gg at h0⊢;cases y:jv (mj p c) 0 c.length with
  |none=>rw[y] at h0;exact absurd rfl h0
  |some b=>
   obtain⟨g,_,_,k,_⟩:=yO y;unfold mj at k;cases l:c[g]? with
   |none=>rw[l] at k;cases k
   |some a=>
    rw[l] at k;cases m:p a with
    |false=>simp only[m,cond_false] at k;cases k
    |true=>simp only[m,cond_true] at k;injection k with k;show 0<=b;omega
 obtain⟨h,P,J,A,I,O⟩:=HN L;have R:=(d2.1 A).1;rw[J,aJ];have N:Ok (bO f (c,(h:Int),(h:Int)+1)) λd=>∃i:Nat,d.2=(i:Int)/\i<=d.1.length/\d.1.take i=c.filter λa=>!p a:=by
  refine di (c.length - (h+1)) (λj e=>∃i:Nat,e.2.1=(i:Int)/\e.2.2=((h+1+j:Nat):Int)/\i<h+1+j/\e.1.length=c.length/\e.1.take i=(c.take (h+1+j)).filter (λa=>!p a)/\∀g,h+1+j<=g->e.1[g]? =c[g]?) _ (λj e U v=>?_) (λe v=>?_) _ ⟨h,rfl,by show(h:Int)+1=_;omega,by omega,rfl,?_,λg _=>rfl⟩
  ·obtain⟨aK,H,b⟩:=e;obtain⟨i,rfl,rfl,u,t,s,r⟩:=v;dsimp only at u t s r;have q:h+1+j<c.length:=by omega
   have l:=c6 q;have B:=d0 q;generalize c[h+1+j]=a at l B;have D:aK[h+1+j]? =c7 a:=(r _ (f1 _)).trans l;rw[C,aC,bn,D,aa,d1,D,aa,M a B,aa,de];have x:(c.take (h+1+(j+1))).filter (λa=>!p a)=(c.take (h+1+j)).filter (λa=>!p a)++(if p a=true then[] else[a]):=by
    rw[show h+1+(j+1)=(h+1+j)+1 by omega,iE l,List.filter_append];cases m:p a <;> simp[m]
   cases m:p a with
   |true=>
    simp only[cond_true,aa];rw[aJ];refine ae ⟨i,rfl,by dsimp only;omega,by omega,t,?_,λg q=>r g (by omega)⟩
    rw[x,m];simpa using s
   |false=>
    have w:i<aK.length:=by omega
    simp only[cond_false];rw[bn,c6 w,aa,d1,c6 w,aa,aa,aJ (n:=(i:Int)+1),aJ];refine ae ⟨i+1,rfl,by dsimp only;omega,by omega,by dsimp only;rw[d4];exact t,?_,λg q=>?_⟩
    ·dsimp only;rw[x,m,iE (ej w),List.take_set_of_le (f1 _),s];simp
    ·dsimp only;rw[f2 (by omega)];exact r g (by omega)
  ·obtain⟨aK,H,b⟩:=e;obtain⟨i,rfl,rfl,u,t,s,r⟩:=v;dsimp only at u t s r;rw[C,aG];refine ae ⟨i,rfl,by dsimp only;omega,?_⟩
   dsimp only;rw[s,fe (by omega)]
  ·rw[Nat.add_zero,iE A,List.filter_append];simp only[I,ee,ge,not_false_eq_true,List.filter_cons_of_neg,List.filter_nil,List.append_nil]
   symm
   refine List.filter_eq_self.2 λa l=>?_
   obtain⟨g,q,rfl⟩:=d7.1 l;rw[d9] at q;rw[List.getElem_take];rw[O g _ (by omega) (c6 (by omega))]
   rfl
 obtain⟨d,F,i,K,T,k⟩:=N;rw[F,aa,K,l8 (by omega) (by omega) (by omega),aa,d1,d1];have Q:(X.iG z i (d.1.length -i) d.1).length=d.1.length:=by
  unfold X.iG;simp only[dT,d9,d8,ey];omega
 rw[l8 (by omega) (by omega) (by omega),aa,d1]
 congr 1
 show((X.iG z i (d.1.length -i) d.1).take i).drop 0=_
 rw[h5, <-k];unfold X.iG;rw[List.take_append_of_le_length (by rw[d9];omega),List.take_take,Nat.min_self]
theorem al9{c:List Int}(W:c.length<=1000000):Ok (ED LC c) λr=>r.length<=c.length/\∀d,d∈r↔d∈c:=by
 unfold ED;refine aV (λ_=>ae ⟨f1 _,λd=>Iff.rfl⟩) (λZ=>?_)
 refine aD (Q:=λf=>match f with | .inl r=>r.length<=c.length/\∀d,d∈r↔d∈c | .inr _=>True) ?_ λf t=>?_
 ·refine di (c.length -1) (λa g=>g=((1+a:Nat):Int)) _ (λa g ab j=>?_) (λg j=>?_) _ rfl
  ·subst j;have v:1+a<c.length:=by omega
   have M:c3 c4 (((1+a:Nat):Int) -1)=(a:Int):=by rw[aJ];omega
   unfold If;rw[aC,bn,c6 v,aa,d1,c6 v,aa,M,bn,c6 (show a<c.length by omega),aa,d1,c6 (show a<c.length by omega),aa];refine aV (λE=>?_) (λ_=>by rw[aJ];exact ae (by dsimp only;omega))
   rw[l8 (by omega) (by omega) (by omega),aa];refine aD (Q:=λf=>∃i:Nat,f.2=(i:Int)/\f.1.length=c.length/\i<=c.length/\∀d,d∈f.1.take i↔d∈c) ?_ λf t=>?_
   ·refine di (c.length - (1+a) -1) (λe g=>∃i:Nat,g.2.1=(i:Int)/\g.2.2=((e+1:Nat):Int)/\i<=1+a+e/\g.1.length=c.length/\(∀h,1+a+e<=h->g.1[h]? =c[h]?)/\∀d,d∈g.1.take i↔d∈c.take (1+a+e+1)) _ (λe g B j=>?_) (λg j=>?_) _ ⟨1+a,rfl,rfl,by omega,rfl,λh _=>rfl,λd=>?_⟩
    ·obtain⟨aK,J,b⟩:=g;obtain⟨i,rfl,rfl,s,m,l,o⟩:=j;dsimp only at s m l o;have N:1+a+(e+1)<c.length:=by omega
     have q:=c6 N;have p:=c6 (show 1+a+e<c.length by omega);generalize ac:c[1+a+(e+1)]=X at q;generalize ad:c[1+a+e]'(by omega)=w at p;have D:aK[1+a+(e+1)]? =c7 X:=(l _ (by omega)).trans q;have P:aK[1+a+e]? =c7 w:=(l _ (by omega)).trans p;have I:(((aK).drop ((1+a:Nat):Int).toNat).take ((c.length:Int).toNat - ((1+a:Nat):Int).toNat)).length=c.length - (1+a):=by
      rw[d9,ey,d1,d1];omega
     have z:∀h:Nat,h<c.length - (1+a)->∃H,aj (((aK).drop ((1+a:Nat):Int).toNat).take ((c.length:Int).toNat - ((1+a:Nat):Int).toNat)) (h:Int)=c7 H:=λh y=>⟨_,by rw[bn];exact c6 (by omega)⟩
     obtain⟨T,F⟩:=z (e+1) (by omega);obtain⟨af,C⟩:=z e (by omega);have G:c3 c4 (((e+1:Nat):Int) -1)=(e:Int):=by rw[aJ];omega
     dsimp only;unfold Kw;rw[aC (by rw[I];omega),F,aa,G,C,aa,d1,d1,D,aa,d1,P,aa,aa,aa];have A:∀d,d∈c.take (1+a+(e+1)+1)↔d∈c.take (1+a+e+1)\/d=X:=λd=>by
      rw[show 1+a+(e+1)+1=(1+a+(e+1))+1 by omega,iE q,d6,d5,show 1+a+(e+1)=1+a+e+1 by omega]
     have O:w∈c.take (1+a+e+1):=by rw[iE p];simp
     by_cases x:X≠w
     ·have u:i<aK.length:=by omega
      rw[aC x,bn,c6 u,aa,d1,c6 u,aa,aa,aJ (n:=(i:Int)+1),aJ];refine ae ⟨i+1,rfl,by dsimp only;omega,by omega,by dsimp only;rw[d4];exact m,λh y=>?_,λd=>?_⟩
      ·dsimp only;rw[f2 (by omega)];exact l h (by omega)
      ·dsimp only;rw[A,iE (ej u),List.take_set_of_le (f1 _),d6,d5,o]
     ·have R:=dv.1 x;rw[aG x,aa,aJ];refine ae ⟨i,rfl,by dsimp only;omega,by omega,m,λh y=>l h (by omega),λd=>?_⟩
      dsimp only;rw[A,o];exact⟨.inl,λk=>k.elim id λk=>by rw[k,R];exact O⟩
    ·obtain⟨aK,J,b⟩:=g;obtain⟨i,rfl,rfl,s,m,l,o⟩:=j;dsimp only at s m l o;dsimp only;unfold Kw;rw[aG (by rw[d9,ey,d1,d1];omega)];refine ae ⟨i,rfl,m,by omega,λd=>?_⟩
     dsimp only;rw[o,fe (by omega)]
    ·dsimp only;have p:=c6 v;have q:=c6 (show a<c.length by omega);rw[show 1+a+0+1=(1+a)+1 by omega,iE p,d6,d5,E];refine⟨.inl,λk=>k.elim id λk=>?_⟩
     have S:c[a]∈c.take (a+1):=by rw[iE q];exact d6.2 (.inr (d5.2 rfl))
     rw[k,show 1+a=a+1 by omega];exact S
   ·obtain⟨i,L,V,Y,K⟩:=t;rw[L,l8 (by omega) (by omega) (by omega),aa,d1,d1];have U:(X.iG (0:Int) i (f.1.length -i) f.1).length=f.1.length:=by
     unfold X.iG;simp only[dT,d9,d8,ey];omega
    rw[l8 (by omega) (by omega) (by omega),aa,d1];have B:((X.iG (0:Int) i (f.1.length -i) f.1).take i).drop (0:Int).toNat=f.1.take i:=by
     show((X.iG (0:Int) i (f.1.length -i) f.1).take i).drop 0=_
     rw[h5];unfold X.iG;rw[List.take_append_of_le_length (by rw[d9];omega),List.take_take,Nat.min_self]
    rw[B];exact ae ⟨by rw[d9];omega,K⟩
  ·subst j;unfold If;rw[aG];exact ae trivial
 ·cases f with
  |inl r=>exact ae t
  |inr _=>exact ae ⟨f1 _,λd=>Iff.rfl⟩
theorem akS{a b:List Int}(f:a.length+b.length<=100000):Ok (zT LC a b) λr=>r.length<=a.length+b.length/\∀d,d∈r↔d∈a\/d∈b:=by
 unfold zT He;have k:bO (λc:Int×Int=>ve LC [a,b] c.1 c.2) (0,0)=c7 ((a.length+b.length:Nat):Int):=by
  rw[iO (a':=((a.length:Int),1)),iO (a':=(((a.length+b.length:Nat):Int),2)),fZ (b:=((a.length+b.length:Nat):Int))]
  ·rfl
  ·dsimp only;unfold ve;rw[aC (by simp),show aj [a,b] 1=c7 b from rfl,aa,aJ (n:=(a.length:Int)+b.length),aG,aJ]
   congr 2
  ·dsimp only;unfold ve;rw[aC (by simp),show aj [a,b] 0=c7 a from rfl,aa,aJ (n:=0+(a.length:Int)),aG,aJ,Int.zero_add]
   rfl
 rw[show LC.loop (λc:Int×Int=>ve LC [a,b] c.1 c.2) (0,0)=_ from k,aa];have i:CW LC ((a.length+b.length:Nat):Int)=c7 []:=by
  unfold CW Ct;rw[aC,nS (by omega) (by omega),aa]
 rw[i,aa];have h:∀d e:List Int,d.length+e.length<=100000->bj 8 d e=c7 (d++e):=λd e f=>pN (by omega)
 have j:bO (λc:List Int×Int=>xV LC [a,b] c.1 c.2) ([],0)=c7 (a++b):=by
  rw[iO (a':=(a,1)),iO (a':=(a++b,2)),fZ (b:=a++b)]
  ·rfl
  ·dsimp only;unfold xV;rw[aC (by simp),show aj [a,b] 1=c7 b from rfl,aa,h a b f,aa]
   rfl
  ·dsimp only;unfold xV;rw[aC (by simp),show aj [a,b] 0=c7 a from rfl,aa,h [] a (by simp;omega),aa,List.nil_append]
   rfl
 rw[show LC.loop (λc:List Int×Int=>xV LC [a,b] c.1 c.2) ([],0)=_ from j];simp only[aa];rw[zF (cX (n:=100000) (by rw[dT];exact f) (by decide)),aa];refine aD (al9 (by rw[uP,dT];omega)) λr g=>ae ⟨by have:=g.1;rw[uP,dT] at this;exact this,λd=>?_⟩
 rw[g.2,(uK _).mem_iff,d6]
def lH(b:ak)(a:bE):Prop:=cP b/\cj 0 ((b.ai.length:Int) -1) a.Safe/\cj 0 ((b.ai.length:Int) -1) a.dg/\cj 0 ((b.af.length:Int) -1) a.dG/\0<=a.er/\a.er<=2147483648
instance (a:ak) (b:bE):Decidable (lH a b):=by unfold lH;infer_instance
structure lO (e:bE):Prop where
 s:Fit e.Safe
 b:Fit e.dg
 h:Fit e.dG
theorem Jc{c:ak}{d:bE}(e:lO d):rP LC c d=c7 (c5 (lH c d)):=by
 unfold rP;rw[ko,aa]
 by_cases a:cP c
 rotate_left
 ·rw[aG a,decide_eq_false (λb=>a b.1)]
 have g:=a.1;have f:=a.2.1;rw[aC a,aJ (n:=(c.ai.length:Int) -1),aJ (n:=(c.af.length:Int) -1),kw _ _ _ e.s,aa,kw _ _ _ e.b,aa,kw _ _ _ e.h,aa,cF,aa,fm (fm (fm rfl))]
 congr 1
 exact decide_eq_decide.2 ⟨λb=>⟨a,b⟩,λb=>b.2⟩
theorem ahk{a:ak}{b:bE}{p:Int}(d:lO b)(c:Fit a.ai):Bc LC a b p=c7 (c5 (lH a b/\0<=p/\p<=(a.ai.length:Int) -1)):=by
 have e:a.ai.length<=4611686018427387904:=c;unfold Bc;rw[Jc d,aa,aJ,cF,aa];exact fm rfl
def mn(c:ak)(a:cS):Prop:=∃(i:Nat) (r:aZ) (b:Bool),c.af[i]? =c7 r/\a.gX=(i:Int)/\a.from_=(if b then r.To else r.an)/\a.b9=(if b then r.an else r.To)/\a.time=wT c (i:Int) b 2 3 4/\0<=a.time
structure mA (f:cm) (n:Nat):Prop where
 MP:f.n=(n:Int)
 sM:n<=64
 safe:f.safe.length=n
 bad:f.bad.length=n
 num:f.steps.length<=300
 st:∀s,s∈f.steps->(0<=s.from_/\s.from_<(n:Int))/\(0<=s.b9/\s.b9<(n:Int))/\1<=s.time/\s.time<=1000099
theorem mn.ok{m:ak}(j:cP m){s:cS}(h:mn m s):(0<=s.from_/\s.from_<(m.ai.length:Int))/\(0<=s.b9/\s.b9<(m.ai.length:Int))/\1<=s.time/\s.time<=1000099:=by
 obtain⟨i,r,b,c,_,k,n,o,t⟩:=h;obtain⟨a,e⟩:=Cn j c b;have:=rF m (i:Int) b (u:=2) (d:=3) (l:=4) (by decide);rw[k,n];exact⟨a,e,by omega,by omega⟩
theorem aol{m:ak}{o:bE}(S:lH m o):Ok (w9 LC m o) λf=>mA f m.ai.length/\∀a,a∈f.steps->mn m a:=by
 obtain⟨A,C,E,ab,_⟩:=S;have ac:=A.1;have am:=A.2.1;unfold w9;rw[nS (by omega) (by omega),aa,aa,d1];refine aD (Q:=λe:List Bool=>e.length=m.ai.length) ?_ λM N=>?_
 ·refine di m.ai.length (λi a=>a.2=(i:Int)/\a.1.length=m.ai.length) _ (λi a u l=>?_) (λa l=>?_) _ ⟨rfl,d8⟩
  ·obtain⟨d,h⟩:=a;obtain⟨rfl,n⟩:=l;dsimp only at n⊢;unfold u5;rw[aC,bn,c6 u,aa,bn,c6 (show i<d.length by omega),aa,d1,c6 (show i<d.length by omega),aa,aJ];exact ae ⟨rfl,by rw[d4];exact n⟩
  ·obtain⟨d,h⟩:=a;obtain⟨rfl,n⟩:=l;dsimp only at n⊢;unfold u5;rw[aG];exact ae n
 have L:∀(v:List Int) (g:List Bool->Int->Option ((List Bool×Int)⊕List Bool)) (D:List Bool),cj 0 ((m.ai.length:Int) -1) v->(∀d h,g d h=bif c5 (h<(v.length:Int)) then(aj v h).bind λq=>(aj d q).bind λ_=>(d[q.toNat]?).bind λ_=>c7 (.inl (d.set q.toNat true,c3 c4 (h+1))) else c7 (.inr d))->D.length=m.ai.length->Ok (bO (λa:List Bool×Int=>g a.1 a.2) (D,0)) λe=>e.length=m.ai.length:=by
  intro v g D B I T;have ag:=B.len (by omega);refine di v.length (λi a=>a.2=(i:Int)/\a.1.length=m.ai.length) _ (λi a u l=>?_) (λa l=>?_) _ ⟨rfl,T⟩
  ·obtain⟨d,h⟩:=a;obtain⟨rfl,n⟩:=l;dsimp only at n⊢;have x:=c6 u;have J:=B.mem (d0 u);generalize v[i]=q at x J;have G:d[q.toNat]? =c7 (d[q.toNat]'(by omega)):=c6 (by omega);have V:aj d q=c7 (d[q.toNat]'(by omega)):=by unfold aj;rw[if_pos J.1];exact G
   rw[I,aC,bn,x,aa,V,aa,G,aa,aJ];exact ae ⟨rfl,by rw[d4];exact n⟩
  ·obtain⟨d,h⟩:=a;obtain⟨rfl,n⟩:=l;dsimp only at n⊢;rw[I,aG];exact ae n
 refine aD (L o.Safe (λd h=>wU LC o d h) M C (λd h=>rfl) N) λj W=>?_
 refine aD (L o.dg (λd h=>wu LC o d h) (dd m.ai.length false) E (λd h=>rfl) d8) λk ad=>?_
 have al:=ab.len (by omega);refine aD (Q:=λe=>∃c,e=iC (cm.mk (m.ai.length:Int) c j k)/\c.length<=2*m.af.length/\∀a,a∈c->mn m a) ?_ λe s=>?_
 ·refine di m.af.length (λi a=>∃c,a=nC (cm.mk (m.ai.length:Int) c j k) (i:Int)/\c.length<=2*i/\∀a,a∈c->mn m a) _ (λi a u l=>?_) (λa l=>?_) _ ⟨[],rfl,f1 _,λa w=>by cases w⟩
  ·obtain⟨c,rfl,F,t⟩:=l;have x:=c6 u;generalize m.af[i]=r at x;show Ok (pS LC m o j k (cm.mk (m.ai.length:Int) c j k) (i:Int)) _
   unfold pS;rw[aC,bn,x,aa,contains_eq (by show o.dG.length<=_;omega),aa];have fin:∀(e:lU) p,e=iC (cm.mk (m.ai.length:Int) p j k)->p.length<=2*(i+1)->(∀a,a∈p->mn m a)->Ok (c7 (hP (nC (ox j k e) (c3 c4 ((i:Int)+1))))) λe:pE⊕lU=>match e with
    | .inl O=>∃c,O=nC (cm.mk (m.ai.length:Int) c j k) ((i+1:Nat):Int)/\c.length<=2*(i+1)/\∀a,a∈c->mn m a
    | .inr e=>∃c,e=iC (cm.mk (m.ai.length:Int) c j k)/\c.length<=2*m.af.length/\∀a,a∈c->mn m a:=λe p s C E=>by
    subst s;rw[aJ];exact ae ⟨p,rfl,C,E⟩
   by_cases K:(i:Int)∈o.dG
   ·rw[aC K,aa];exact gh (fin _ c rfl (by omega) t) λe s=>by cases e <;> exact s
   ·rw[aG K,AF,aa];have H:∀(c:List cS) (b:Bool),c.length<=2*i+1->(∀a,a∈c->mn m a)->∃p,(bif c5 (0<=wT m (i:Int) b 2 3 4) then(bj 32 c ([(cS.mk (i:Int) (if b then r.To else r.an) (if b then r.an else r.To) (wT m (i:Int) b 2 3 4))]:List cS)).bind λZ=>c7 (iC (cm.mk (m.ai.length:Int) Z j k)) else c7 (iC (cm.mk (m.ai.length:Int) c j k)))=c7 (iC (cm.mk (m.ai.length:Int) p j k))/\p.length<=c.length+1/\∀a,a∈p->mn m a:=λc b B w=>by
     by_cases z:0<=wT m (i:Int) b 2 3 4
     ·rw[aC z,dm (by decide) (by omega),aa];refine⟨_,rfl,by simp,λa y=>?_⟩
      rcases d6.1 y with y |y
      ·exact w a y
      ·rw[d5] at y;subst y;exact⟨i,r,b,x,rfl,rfl,rfl,rfl,z⟩
     ·rw[aG z];exact⟨c,rfl,by omega,w⟩
    obtain⟨U,af,ai,P⟩:=H c false (by omega) t;obtain⟨X,R,ah,Y⟩:=H U true (by omega) P;refine c8 (m:=Option.bind _ _) ?_ (gh (fin _ X rfl (by omega) Y) λe s=>by cases e <;> exact s)
    refine(dL af).trans ?_
    show((nK LC m (i:Int) true).bind _)=_
    rw[AF,aa];exact(dL R).trans rfl
  ·obtain⟨c,rfl,F,t⟩:=l;show Ok (pS LC m o j k (cm.mk (m.ai.length:Int) c j k) (m.af.length:Int)) _
   unfold pS;rw[aG];exact ae ⟨c,rfl,F,t⟩
 ·obtain⟨c,rfl,F,t⟩:=s;exact ae ⟨⟨rfl,ac,W,ad,by show c.length<=300;omega,λa w=>(t a w).ok A⟩,t⟩
theorem ahu{b:ak}{c:bE}:DM LC b c=(w9 LC b c).bind λf=>c7 (JJ f):=by
 unfold DM w9;cases l:(gP 1 false (b.ai.length:Int)) with
 |none=>rfl
 |some g=>
  simp only[aa];show((bO (λa:List Bool×Int=>u5 LC b a.1 a.2) (g,0)).bind _)=((bO (λa:List Bool×Int=>u5 LC b a.1 a.2) (g,0)).bind _).bind _
  cases i:bO (λa:List Bool×Int=>u5 LC b a.1 a.2) (g,0) with
  |none=>rfl
  |some h=>
   simp only[aa];show((bO (λa:List Bool×Int=>wU LC c a.1 a.2) (h,0)).bind _)=((bO (λa:List Bool×Int=>wU LC c a.1 a.2) (h,0)).bind _).bind _
   cases j:bO (λa:List Bool×Int=>wU LC c a.1 a.2) (h,0) with
   |none=>rfl
   |some e=>
    simp only[aa];show((bO (λa:List Bool×Int=>wu LC c a.1 a.2) (g,0)).bind _)=((bO (λa:List Bool×Int=>wu LC c a.1 a.2) (g,0)).bind _).bind _
    cases k:bO (λa:List Bool×Int=>wu LC c a.1 a.2) (g,0) with
    |none=>rfl
    |some d=>
     simp only[aa];show((bO (λa:pE=>pS LC b c e d (wK e d a) (wo a)) (nC (cm.mk (b.ai.length:Int) [] e d) 0)).bind _)=((bO (λa:pE=>pS LC b c e d (wK e d a) (wo a)) (nC (cm.mk (b.ai.length:Int) [] e d) 0)).bind _).bind _
     cases bO (λa:pE=>pS LC b c e d (wK e d a) (wo a)) (nC (cm.mk (b.ai.length:Int) [] e d) 0) <;> rfl
theorem jF{b:Type}{a:List b}{i:Int}(c:b)(h0:0<=i)(d:i<(a.length:Int)):aj a i=c7 (a.getD i.toNat c):=by
 unfold aj;rw[if_pos h0,dk,c6 (by omega)]
 rfl
theorem get_at{b:Type}{a:List b}{i:Int}(c:b)(h0:0<=i)(d:i<(a.length:Int)):a[i.toNat]? =c7 (a.getD i.toNat c):=by
 rw[dk,c6 (by omega)]
 rfl
def jl(f:cm)(a:cS):Bool:=!(f.safe.getD a.from_.toNat false)&&!(f.bad.getD a.b9.toNat false)
theorem SH{f:cm}{e:Nat}(b:mA f e){a:cS}(g:a∈f.steps):wJ LC f a=c7 (jl f a):=by
 obtain⟨d,c,_⟩:=b.st a g;have h:=b.safe;have i:=b.bad;unfold wJ jl;rw[jF false d.1 (by omega),aa,jF false c.1 (by omega),aa];cases f.safe.getD a.from_.toNat false <;> rfl
abbrev ig:da:=⟨0,0⟩
def cg(a:List da)(p:Int):da:=a.getD p.toNat ig
def kp(a b:da):Prop:=a.time<b.time\/(a.time=b.time/\a.roads<b.roads)
instance (a b:da):Decidable (kp a b):=by unfold kp;infer_instance
def kx(a:da)(b:cS):da:=⟨a.time+b.time,a.roads+1⟩
theorem W6(c b:da):zX LC c b=c7 (c5 (kp c b)):=by
 unfold zX
 by_cases d:c.time<b.time
 ·rw[aC d,decide_eq_true (show kp c b from .inl d)]
 rw[aG d]
 by_cases e:c.time=b.time
 ·rw[aC e]
  congr 1
  exact decide_eq_decide.2 ⟨λa=>.inr ⟨e,a⟩,λa=>a.elim (λa=>absurd a d) λa=>a.2⟩
 ·rw[aG e,decide_eq_false (show ¬kp c b from λa=>a.elim d λa=>e a.1)]
theorem alH{a:List da}{p q:Int}{v:da}(e:0<=p)(c:0<=q)(d:q<(a.length:Int)):cg (a.set q.toNat v) p=if p=q then v else cg a p:=by
 unfold cg;rw[dk,f8]
 by_cases b:p=q
 ·subst b;rw[if_pos rfl,if_pos rfl,if_pos (by omega)]
  rfl
 ·rw[if_neg b,if_neg (by omega),dk]
def mv(a:da):Nat:=(a.time*1180591620717411303424+a.roads).toNat
def mu(a:List da):Nat:=(a.map mv).sum
theorem RF:∀(a:List da) (b:Nat) (v:da),b<a.length->mv v<mv (a.getD b ig)->mu (a.set b v)<mu a
 |[],b,v,d,_=>absurd d (by simp)
 |f::a,0,v,_,c=>by
  unfold mu;simp only[g4,hB,List.sum_cons,List.getD_cons_zero] at c⊢;omega
 |f::a,b+1,v,d,c=>by
  have e:=RF a b v (by simpa using d) (by simpa using c);unfold mu at e⊢;simp only[hI,hB,List.sum_cons];omega
structure CI (f:cm) (n:Nat) (c:List da):Prop where
 len:c.length=n
 oV:∀p:Int,0<=p->p<(n:Int)->0<=(cg c p).roads/\(cg c p).roads<=(cg c p).time/\(cg c p).time<=(1152921504606846976:Int)/\((cg c p).time=(1152921504606846976:Int)->(cg c p).roads=0)
 sf:∀p:Int,0<=p->p<(n:Int)->f.safe.getD p.toNat false=true->cg c p=ig
 Ts:∀p:Int,0<=p->p<(n:Int)->f.safe.getD p.toNat false=false->(cg c p).time<(1152921504606846976:Int)->∃s,s∈f.steps/\s.from_=p/\jl f s=true/\¬kp (cg c p) (kx (cg c s.b9) s)
theorem ae7{f:cm}{d:Nat}(s:mA f d):Ok (bO (λc:List da×Int=>zV LC (dd d ig) f c.1 c.2) (dd d ig,0)) (CI f d):=by
 have v:=s.sM;have u:=s.safe;refine di d (λi c=>c.2=(i:Int)/\c.1.length=d/\∀p:Nat,p<d->c.1.getD p ig=if p<i/\f.safe.getD p false=false then⟨(1152921504606846976:Int),0⟩ else ig) _ (λi c t n=>?_) (λc n=>?_) _ ⟨rfl,d8,λp k=>?_⟩
 ·obtain⟨r,a⟩:=c;obtain⟨rfl,j,e⟩:=n;dsimp only at j e⊢;unfold zV;have o:=e i t;rw[if_neg (by omega)] at o;rw[aC (by rw[d8];omega),jF false (by omega) (by omega),aa,jF ig (by omega) (by omega),aa,get_at ig (by omega) (by omega),aa,d1,o,aJ];cases g:f.safe.getD i false with
  |true=>
   simp only[ee,cond_false,aa];refine ae ⟨rfl,j,λp k=>?_⟩
   dsimp only;rw[e p k]
   by_cases l:p=i
   ·subst l;rw[if_neg (by omega),if_neg (by rw[g];simp)]
   ·have:(p<i/\f.safe.getD p false=false)↔(p<i+1/\f.safe.getD p false=false):=⟨λa=>⟨by omega,a.2⟩,λa=>⟨by omega,a.2⟩⟩
    by_cases b:p<i/\f.safe.getD p false=false
    ·rw[if_pos b,if_pos (this.1 b)]
    ·rw[if_neg b,if_neg (λa=>b (this.2 a))]
  |false=>
   simp only[h7,cond_true,aa];refine ae ⟨rfl,by dsimp only;rw[d4];exact j,λp k=>?_⟩
   dsimp only;rw[dk,f8]
   by_cases l:i=p
   ·subst l;rw[if_pos rfl,if_pos (by omega),if_pos ⟨by omega,g⟩]
    rfl
   ·rw[if_neg l, <-dk,e p k];have:(p<i/\f.safe.getD p false=false)↔(p<i+1/\f.safe.getD p false=false):=⟨λa=>⟨by omega,a.2⟩,λa=>⟨by omega,a.2⟩⟩
    by_cases b:p<i/\f.safe.getD p false=false
    ·rw[if_pos b,if_pos (this.1 b)]
    ·rw[if_neg b,if_neg (λa=>b (this.2 a))]
 ·obtain⟨r,a⟩:=c;obtain⟨rfl,j,e⟩:=n;dsimp only at j e⊢;unfold zV;rw[aG (by rw[d8];omega)];have m:∀p:Int,0<=p->p<(d:Int)->cg r p=if f.safe.getD p.toNat false=false then⟨(1152921504606846976:Int),0⟩ else ig:=λp h0 h=>by
   unfold cg;rw[e p.toNat (by omega)]
   by_cases b:f.safe.getD p.toNat false=false
   ·rw[if_pos b,if_pos ⟨by omega,b⟩]
   ·rw[if_neg b,if_neg (λa=>b a.2)]
  refine ae ⟨j,λp h0 h=>?_,λp h0 h g=>?_,λp h0 h g q=>?_⟩
  ·rw[m p h0 h]
   split <;> simp
  ·rw[m p h0 h,g];rfl
  ·rw[m p h0 h,if_pos g] at q;exact absurd q (by simp)
 ·rw[if_neg (by omega),dk,f4,if_pos k]
  rfl
theorem ab5{f:cm}{n:Nat}(E:mA f n){e:List da}(h0:CI f n e):Ok (bO (λa:List da×Bool×Int=>AB LC f a.1 a.2.1 a.2.2) (e,false,0)) λw=>CI f n w.1/\(w.2=true->mu w.1<mu e)/\(w.2=false->w.1=e/\∀a,a∈f.steps->jl f a=true->(cg e a.b9).time<(1152921504606846976:Int)->¬kp (kx (cg e a.b9) a) (cg e a.from_)):=by
 have ab:=E.num;refine di f.steps.length (λi a=>a.2.2=(i:Int)/\CI f n a.1/\(a.2.1=true->mu a.1<mu e)/\(a.2.1=false->a.1=e/\∀(j:Nat) k,j<i->f.steps[j]? =c7 k->jl f k=true->(cg e k.b9).time<(1152921504606846976:Int)->¬kp (kx (cg e k.b9) k) (cg e k.from_))) _ (λi a I F=>?_) (λa F=>?_) _ ⟨rfl,h0,(by intro d;cases d),λ_=>⟨rfl,λj k s=>absurd s (by omega)⟩⟩
 ·obtain⟨c,b,o⟩:=a;obtain⟨rfl,g,q,h⟩:=F;dsimp only at g q h⊢;have G:=c6 I;have B:=d0 I;generalize f.steps[i]=a at G B;obtain⟨x,A,ag,af⟩:=E.st a B;have P:=g.len;have ad:=g.oV a.b9 A.1 A.2;have Q:=g.oV a.from_ x.1 x.2;unfold AB;rw[aC,bn,G,aa,jF ig A.1 (by omega),aa,get_at ig A.1 (by omega),aa,aa,aa,SH E B,aa];rw[jF ig x.1 (by omega),get_at ig x.1 (by omega)];rw[show List.getD c a.b9.toNat ig=cg c a.b9 from rfl,show List.getD c a.from_.toNat ig=cg c a.from_ from rfl,aJ (n:=(cg c a.b9).time+a.time),aJ (n:=(cg c a.b9).roads+1)];simp only[aa,W6];have Y:(bif jl f a then(bif c5 ((cg c a.b9).time<1152921504606846976) then c7 (c5 (kp (da.mk ((cg c a.b9).time+a.time) ((cg c a.b9).roads+1)) (cg c a.from_))) else c7 false) else c7 false)=c7 (c5 (jl f a=true/\(cg c a.b9).time<(1152921504606846976:Int)/\kp (kx (cg c a.b9) a) (cg c a.from_))):=by
   cases r:jl f a with
   |false=>simp
   |true=>
    simp only[cond_true,true_and]
    by_cases C:(cg c a.b9).time<(1152921504606846976:Int)
    ·rw[aC C]
     congr 1
     exact decide_eq_decide.2 ⟨λo=>⟨C,o⟩,λo=>o.2⟩
    ·rw[aG C,decide_eq_false (λo=>C o.1)]
  refine c8 Y ?_
  by_cases u:jl f a=true/\(cg c a.b9).time<(1152921504606846976:Int)/\kp (kx (cg c a.b9) a) (cg c a.from_)
  ·rw[aC u,aa,aJ];obtain⟨u1,u2,u3⟩:=u;have X:a.b9≠a.from_:=λd=>by
    rw[d] at u3;rcases u3 with u3 |u3
    ·have:(cg c a.from_).time+a.time<(cg c a.from_).time:=u3;omega
    ·have:(cg c a.from_).time+a.time=(cg c a.from_).time:=u3.1;omega
   have Z:(cg c a.b9).time+a.time<(1152921504606846976:Int):=by
    rcases u3 with u3 |u3
    ·have:(cg c a.b9).time+a.time<(cg c a.from_).time:=u3;omega
    ·have T:(cg c a.b9).time+a.time=(cg c a.from_).time:=u3.1;have V:(cg c a.b9).roads+1<(cg c a.from_).roads:=u3.2;have ac:=Q.2.2.2;omega
   have N:f.safe.getD a.from_.toNat false=false:=by
    unfold jl at u1;cases d:f.safe.getD a.from_.toNat false with
    |false=>rfl
    |true=>rw[d] at u1;simp at u1
   have m:∀p:Int,0<=p->cg (c.set a.from_.toNat (da.mk ((cg c a.b9).time+a.time) ((cg c a.b9).roads+1))) p=if p=a.from_ then kx (cg c a.b9) a else cg c p:=λp y=>alH y x.1 (by omega)
   have H:mu (c.set a.from_.toNat (da.mk ((cg c a.b9).time+a.time) ((cg c a.b9).roads+1)))<mu c:=by
    refine RF _ _ _ (by omega) ?_
    show mv (kx (cg c a.b9) a)<mv (cg c a.from_)
    unfold mv kx;dsimp only;rcases u3 with u3 |u3
    ·have:(cg c a.b9).time+a.time<(cg c a.from_).time:=u3;omega
    ·have T:(cg c a.b9).time+a.time=(cg c a.from_).time:=u3.1;have V:(cg c a.b9).roads+1<(cg c a.from_).roads:=u3.2;omega
   refine ae ⟨by dsimp only;omega,⟨by dsimp only;rw[d4];exact P,λp l z=>?_,λp l z t=>?_,λp l z t D=>?_⟩,λ_=>?_,(by intro d;cases d)⟩
   ·dsimp only;rw[m p l]
    split
    ·unfold kx;dsimp only;omega
    ·exact g.oV p l z
   ·dsimp only;rw[m p l,if_neg (λd=>by rw[d,N] at t;cases t)];exact g.sf p l z t
   ·dsimp only at D⊢;rw[m p l] at D⊢
    by_cases y:p=a.from_
    ·rw[if_pos y];refine⟨a,B,y.symm,u1,?_⟩
     rw[m _ A.1,if_neg X];intro d;rcases d with d |d
     ·exact absurd d (Int.lt_irrefl _)
     ·exact absurd d.2 (Int.lt_irrefl _)
    ·rw[if_neg y] at D⊢;obtain⟨v,J,O,S,K⟩:=g.Ts p l z t D;refine⟨v,J,O,S,?_⟩
     rw[m _ (E.st v J).2.1.1]
     split
     ·rename_i W;intro d;refine K ?_
      rw[W];unfold kp kx at d u3⊢;dsimp only at d u3⊢;omega
     ·exact K
   ·dsimp only;cases b with
    |true=>exact Nat.lt_trans H (q rfl)
    |false=>rw[(h rfl).1] at H⊢;exact H
  ·rw[aG u,aa,aJ];refine ae ⟨by dsimp only;omega,g,q,λd=>⟨(h d).1,λj k s r=>?_⟩⟩
   by_cases M:j<i
   ·exact(h d).2 j k M r
   ·have:j=i:=by omega
    subst this;rw[G] at r;injection r with r
    subst r;rw[(h d).1] at u;exact λL R U=>u ⟨L,R,U⟩
 ·obtain⟨c,b,o⟩:=a;obtain⟨rfl,g,q,h⟩:=F;dsimp only at g q h⊢;unfold AB;rw[aG];refine ae ⟨g,q,λd=>⟨(h d).1,λa m=>?_⟩⟩
  obtain⟨j,s,rfl⟩:=d7.1 m;exact(h d).2 j _ s (c6 s)
structure N7 (f:cm) (n:Nat) (c:List da):Prop where
 ci:CI f n c
 nx:∀p:Int,0<=p->p<(n:Int)->f.safe.getD p.toNat false=false->(cg c p).time<(1152921504606846976:Int)->∃s,s∈f.steps/\s.from_=p/\jl f s=true/\cg c p=kx (cg c s.b9) s
theorem ajU{f:cm}{j:Nat}(e:mA f j):Ok (Bg LC f) (N7 f j):=by
 have G:=e.sM;unfold Bg;rw[e.MP,nS (by omega) (by omega),aa,d1];refine aD (ae7 e) λI y=>?_
 refine aD (Q:=N7 f j) ?_ λF z=>ae z
 refine oa (λa=>CI f j a.1/\(a.2=false->∀c,c∈f.steps->jl f c=true->(cg a.1 c.b9).time<(1152921504606846976:Int)->¬kp (kx (cg a.1 c.b9) c) (cg a.1 c.from_))) (λa=>2*mu a.1+(if a.2 then 1 else 0)) _ (λa v=>?_) _ ⟨y,(by intro l;cases l)⟩
 obtain⟨d,b⟩:=a;obtain⟨g,n⟩:=v;dsimp only at g n⊢;unfold Tg;cases b with
 |true=>
  rw[cond_true];refine aD (ab5 e g) λA h=>ae ⟨⟨h.1,λl=>?_⟩,?_⟩
  ·obtain⟨s,w⟩:=h.2.2 l;dsimp only;rw[s];exact w
  ·dsimp only;cases r:A.2 with
   |true=>have:=h.2.1 r;simp;omega
   |false=>rw[(h.2.2 r).1];simp
 |false=>
  rw[cond_false];refine ae ⟨g,λp D C x E=>?_⟩
  obtain⟨a,k,m,o,i⟩:=g.Ts p D C x E;obtain⟨J,q,L,K⟩:=e.st a k;have H:=g.oV a.b9 q.1 q.2;refine⟨a,k,m,o,?_⟩
  have u:(cg d a.b9).time<(1152921504606846976:Int):=by
   unfold kp kx at i;dsimp only at i;omega
  have:=n rfl a k o u;rw[m] at this;unfold kp kx at i this;unfold kx;dsimp only at i this;have B:(cg d p).time=(cg d a.b9).time+a.time:=by omega
  have t:(cg d p).roads=(cg d a.b9).roads+1:=by omega
  rw[<-B, <-t]
def lL(f:cm):Int->List cS->Int->Prop
 |c,[],b=>c=b
 |c,a::d,b=>a∈f.steps/\jl f a=true/\a.from_=c/\lL f a.b9 d b
theorem lL.snoc{f:cm}:∀{a:Int} {e:List cS} {b:Int},lL f a e b->∀{s:cS},s∈f.steps->jl f s=true->s.from_=b->lL f a (e++[s]) s.b9
 |a,[],b,h,s,j,c,d=>⟨j,c,d.trans (show a=b from h).symm,rfl⟩
 |a,k::e,b,h,s,j,c,d=>⟨h.1,h.2.1,h.2.2.1,lL.snoc h.2.2.2 j c d⟩
def gz(a:List cS):Int:=(a.map (·.time)).sum
structure mC (f:cm) (p:Int) (ss:List cS):Prop where
 ex:∃q,lL f p ss q/\0<=q/\f.safe.getD q.toNat false=true
 nd:(p::ss.map (·.b9)).Nodup
theorem lL.mem{f:cm}:∀{a:Int} {d:List cS} {b:Int},lL f a d b->∀s,s∈d->s∈f.steps/\jl f s=true
 |a,[],b,h,s,c=>by cases c
 |a,e::d,b,h,s,c=>by
  rcases hz.1 c with rfl |c
  ·exact⟨h.1,h.2.1⟩
  ·exact lL.mem h.2.2.2 s c
theorem Rv{n:Nat}{b:List Int}(e:b.Nodup)(c:∀a,a∈b->0<=a/\a<(n:Int)):b.length<=n:=by
 have:=Fb b ((List.range n).map Int.ofNat) e λa d=>by
  obtain⟨h0,f⟩:=c a d;exact gy.2 ⟨a.toNat,List.mem_range.2 (by omega),by show(a.toNat:Int)=a;omega⟩
 simpa using this
theorem mC.len{f:cm}{n:Nat}(e:mA f n){p:Int}(j:0<=p/\p<(n:Int)){c:List cS}(h:mC f p c):c.length<n:=by
 obtain⟨q,d,_⟩:=h.ex;have:=Rv (n:=n) h.nd λx a=>by
  rcases hz.1 a with rfl |a
  ·exact j
  ·obtain⟨s,k,rfl⟩:=gy.1 a;exact(e.st s (d.mem s k).1).2.1
 simp at this;omega
theorem KZ{f:cm}{h:Nat}(c:mA f h):∀{ss:List cS},(∀a,a∈ss->a∈f.steps)->0<=gz ss/\gz ss<=1000099*(ss.length:Int)
 |[],_=>by simp[gz]
 |a::ss,b=>by
  have e:=KZ c (ss:=ss) λg d=>b g (by simp[d])
  have:=(c.st a (b a (by simp))).2.2;unfold gz at e⊢;simp only[hB,List.sum_cons,e5];omega
theorem amX(a:List cS)(b:cS):gz (a++[b])=gz a+b.time:=by
 unfold gz;rw[f9,List.sum_append];simp
def sG(f:cm)(b:List da)(c:Int)(a:cS):Bool:=c5 (a.from_=c/\jl f a=true/\(cg b a.b9).time=(cg b c).time -a.time/\(cg b a.b9).roads=(cg b c).roads -1)
theorem ab4{f:cm}{n:Nat}(i:mA f n){c:List da}(h:CI f n c){a:Int}(g:0<=a/\a<(n:Int)){b:cS}(j:b∈f.steps):EN LC b a f c=c7 (sG f c a b):=by
 obtain⟨o,e,p,r⟩:=i.st b j;have q:=h.len;have s:=h.oV b.b9 e.1 e.2;have m:=h.oV a g.1 g.2;unfold EN sG
 by_cases d:b.from_=a
 rotate_left
 ·rw[aG d,decide_eq_false (λk=>d k.1)]
 rw[aC d,SH i j,aa];cases l:jl f b with
 |false=>rw[cond_false,decide_eq_false (by simp)]
 |true=>
  rw[cond_true,jF ig e.1 (by omega),aa,jF ig g.1 (by omega)];simp only[aa];rw[show List.getD c b.b9.toNat ig=cg c b.b9 from rfl,show List.getD c a.toNat ig=cg c a from rfl,aJ (n:=(cg c a).time -b.time),aJ (n:=(cg c a).roads -1)]
  congr 1
  rw[Bool.eq_iff_iff];simp[d]
theorem LA{f:cm}{n:Nat}(h:mA f n){p:Int}(v:0<=p/\p<(n:Int)):Ok (yN LC f p) λr=>r.2.2.2=true->∃a,mC f p a/\r.1=a.map (·.gX)/\r.2.1=p::a.map (·.b9)/\r.2.2.1=gz a:=by
 have Z:=h.sM;have Y:=h.safe;have X:=h.num;unfold yN;refine aD (ajU h) λc k=>?_
 have V:=k.ci.len;rw[jF ig v.1 (by omega),aa];refine aV (λ_=>ae (by intro J;cases J)) (λI=>?_)
 have N:(cg c p).time<(1152921504606846976:Int):=by
  have:¬(1152921504606846976:Int)<=(cg c p).time:=I;omega
 refine aD (Q:=λu=>∃a,mC f p a/\u.2=a.map (·.gX)/\u.1=p::a.map (·.b9)/\(cg c p).time=gz a) ?_ λu G=>?_
 ·refine oa (λb=>∃a,lL f p a b.2.2/\(p::a.map (·.b9)).Nodup/\b.2.1=a.map (·.gX)/\b.1=p::a.map (·.b9)/\(cg c p).time=gz a+(cg c b.2.2).time/\(0<=b.2.2/\b.2.2<(n:Int))/\(cg c b.2.2).time<(1152921504606846976:Int)/\∀q,q∈p::a.map (·.b9)->(cg c b.2.2).roads<=(cg c q).roads) (λb=>(cg c b.2.2).roads.toNat) _ (λb H=>?_) _ ⟨[],(by show p=p;rfl),by simp,rfl,rfl,by simp[gz],v,N,λq d=>by simp at d;rw[d];exact ec _⟩
  obtain⟨af,S,at_⟩:=b;obtain⟨a,j,l,rfl,rfl,t,e,z,y⟩:=H;dsimp only at j t e z y⊢;have P:=j.mem;have E:(p::a.map (·.b9)).length<=n:=Rv l λD g=>by
   rcases hz.1 g with rfl |g
   ·exact v
   ·obtain⟨b,o,rfl⟩:=gy.1 g;exact(h.st b (P b o).1).2.1
  have ai:a.length+1<=n:=by simpa using E
  unfold Lo;rw[jF false e.1 (by omega),aa];cases s:f.safe.getD at_.toNat false with
  |true=>
   simp only[ee,cond_false];refine ae ⟨a,⟨⟨at_,j,e.1,s⟩,l⟩,rfl,rfl,?_⟩
   rw[t,k.ci.sf _ e.1 e.2 s];exact Int.add_zero _
  |false=>
   simp only[h7,cond_true];obtain⟨m,u1,u2,u3,u4⟩:=k.nx at_ e.1 e.2 s z;have w:Aj LC f.steps at_ f c=c7 (gg (sG f c at_) f.steps):=by
    unfold Aj;exact fF (by omega) (λD g=>ab4 h k.ci e g) λb=>rfl
   have O:0<=gg (sG f c at_) f.steps:=Aw.2 ⟨m,u1,by
    unfold sG;refine decide_eq_true ⟨u2,u3,?_,?_⟩
    ·rw[u4];show _=(cg c m.b9).time+m.time -m.time;omega
    ·rw[u4];show _=(cg c m.b9).roads+1 -1;omega⟩
   obtain⟨i,b,R,o,C,_⟩:=HN O;have B:=fC o;obtain⟨ac,x,ah,ad⟩:=h.st b B;unfold sG at C;obtain⟨M,F,T,ag⟩:=of_decide_eq_true C;have W:=k.ci.oV at_ e.1 e.2;have ab:=k.ci.oV b.b9 x.1 x.2;rw[w,aa,R,bn,o];simp only[aa];rw[pN (by simp;omega),aa,pN (by simp;omega),aa];refine ae ⟨⟨a++[b],j.snoc B F M,?_,by simp,by simp,?_,x,?_,?_⟩,?_⟩
   ·rw[f9, <-List.cons_append,List.nodup_append];refine⟨l,by simp,λD g U A=>?_⟩
    simp at A;subst A;intro w;subst w;have:=y _ g;omega
   ·dsimp only;rw[amX,t];omega
   ·dsimp only;omega
   ·dsimp only;intro q d;rw[f9, <-List.cons_append] at d;rcases d6.1 d with d |d
    ·have:=y q d;omega
    ·simp at d;rw[d];exact ec _
   ·dsimp only;omega
 ·obtain⟨a,j,l,K,L⟩:=G;rw[aa];exact ae λ_=>⟨a,j,l,K,L⟩
theorem acq{b:List cS}{a:List Int}(j:b.length<=300)(g:a.length<=300):Bm LC b a=c7 (b.filter λc=>!c5 (c.gX∈a)):=by
 have e:∀d,d∈b->ye LC d a=c7 (c5 (d.gX∈a)):=λd _=>by
  unfold ye;rw[contains_eq (by show a.length<=_;omega),aa]
 unfold Bm;have f:AM LC b a=c7 (gg (λc=>c5 (c.gX∈a)) b):=by
  unfold AM;exact fF (by omega) e λc=>rfl
 rw[f,aa];exact Hs (by omega) e λc i h=>rfl
theorem mC.up{f g:cm}(x:∀s,s∈g.steps->s∈f.steps)(d:g.safe=f.safe)(u:∀k,f.bad.getD k false=true->g.bad.getD k false=true){p:Int}{a:List cS}(h:mC g p a):mC f p a:=by
 obtain⟨q,j,m,w⟩:=h.ex;refine⟨⟨q,?_,m,by rw[<-d];exact w⟩,h.nd⟩
 have key:∀(a:List cS) (p:Int),lL g p a q->lL f p a q:=by
  intro a
  induction a with
  |nil=>exact λp h=>h
  |cons s a o=>
   intro p h;obtain⟨e,c,l,n⟩:=h;refine⟨x s e,?_,l,o _ n⟩
   unfold jl at c⊢;rw[d] at c;have:=u s.b9.toNat;cases t:f.bad.getD s.b9.toNat false with
   |false=>rw[h7,Bool.and_true];exact(gb _ _▸c).1
   |true=>rw[this t] at c;simp at c
 exact key a p j
structure xU (m:ak) (e:bE) (p:Int) (r:List Int×List Int×ju) (ss1 ss2:List cS) (f:cm):Prop where
 there:lH m e/\0<=p/\p<=(m.ai.length:Int) -1
 find:w9 LC m e=c7 f
 fin:mA f m.ai.length
 so:∀s,s∈f.steps->mn m s
 p1:mC f p ss1
 p2:mC f p ss2
 r1:r.1=ss1.map (·.gX)
 r2:r.2.1=ss2.map (·.gX)
 t:r.2.2=⟨gz ss1,gz ss2⟩
 dis:∀s,s∈ss2->s.gX∉ss1.map (·.gX)
theorem S9{m:ak}{e:bE}{p:Int}(V:lO e)(M:Fit m.ai):Ok (r7 LC m e p) λr=>(r.2.2.2=false->r.1=[]/\r.2.1=[])/\(r.2.2.2=true->∃T t f,xU m e p (r.1,r.2.1,r.2.2.1) T t f):=by
 unfold r7;rw[ahk V M,aa]
 by_cases d:lH m e/\0<=p/\p<=(m.ai.length:Int) -1
 rotate_left
 ·rw[decide_eq_false d];exact ae ⟨λ_=>⟨rfl,rfl⟩,by intro c;cases c⟩
 rw[decide_eq_true d,ee,cond_false,ahu];obtain⟨f,v,b,F⟩:=aol d.1;rw[v,aa,aa];dsimp only;rw[show Lk (JJ f)=f from rfl];have Z:=b.safe;have ab:=b.sM;have W:=b.bad;rw[jF false d.2.1 (by omega),aa];cases C:f.safe.getD p.toNat false with
 |true=>exact ae ⟨(by intro c;cases c),λ_=>⟨[],[],f,d,v,b,F,⟨⟨p,rfl,d.2.1,C⟩,by simp⟩,⟨⟨p,rfl,d.2.1,C⟩,by simp⟩,rfl,rfl,rfl,λa k=>by cases k⟩⟩
 |false=>
  rw[cond_false];have z:0<=p/\p<(m.ai.length:Int):=⟨d.2.1,by omega⟩;refine aD (LA b z) λr l=>?_
  obtain⟨J,R,N,w⟩:=r;dsimp only at l⊢;cases w with
  |false=>exact ae ⟨λ_=>⟨rfl,rfl⟩,by intro c;cases c⟩
  |true=>
   obtain⟨h,x,rfl,rfl,rfl⟩:=l rfl;have X:=x.len b z;obtain⟨q,I,_⟩:=x.ex;rw[ee,cond_false,l8 (by omega) (by simp;omega) (by omega),aa];refine aD (Q:=λn:List Bool=>n.length=m.ai.length/\∀j,f.bad.getD j false=true->n.getD j false=true) ?_ λn B=>?_
   ·have D:(((p::h.map (·.b9)).drop ((1:Int).toNat)).take ((((p::h.map (·.b9)).length:Int)).toNat - (1:Int).toNat))=h.map (·.b9):=by
     rw[show((1:Int).toNat)=1 from rfl,List.drop_one,List.tail_cons,fe (by simp)]
    refine di h.length (λi a=>a.2=(i:Int)/\a.1.length=m.ai.length/\∀j,f.bad.getD j false=true->a.1.getD j false=true) _ (λi a A u=>?_) (λa u=>?_) _ ⟨rfl,W,λj c=>c⟩
    ·obtain⟨U,j⟩:=a;obtain⟨rfl,s,o⟩:=u;dsimp only at s o⊢;unfold I9;dsimp only;have y:=c6 A;have E:=d0 A;generalize h[i]=a at y E;have H:=(b.st a (I.mem a E).1).2.1;rw[D,aC (by rw[e6];omega),bn,List.getElem?_map,y,Option.map_some,aa,show(1:Int).toNat+((i:Int)).toNat=i+1 by omega,List.getElem?_cons_succ,List.getElem?_map,y,Option.map_some,aa,jF false H.1 (by omega),aa,get_at false H.1 (by omega),aa,aJ];refine ae ⟨rfl,by dsimp only;rw[d4];exact s,λO L=>?_⟩
     dsimp only;rw[dk,f8]
     split
     ·rename_i Y;rw[if_pos (by omega)]
      rfl
     ·rw[<-dk];exact o O L
    ·obtain⟨U,j⟩:=a;obtain⟨rfl,s,o⟩:=u;dsimp only at s o⊢;unfold I9;dsimp only;rw[D,aG (by rw[e6];omega)];exact ae ⟨s,o⟩
   ·rw[acq b.num (by rw[e6];omega),aa];have S:mA ({f with steps:=f.steps.filter λa=>!c5 (a.gX∈h.map (·.gX)),bad:=n}:cm) m.ai.length:=⟨b.MP,b.sM,b.safe,B.1,f5 (hq _ _) b.num,λa k=>b.st a (hD.1 k).1⟩;refine aD (LA S z) λr l=>?_
    obtain⟨J,R,N,w⟩:=r;dsimp only at l⊢;cases w with
    |false=>exact ae ⟨λ_=>⟨rfl,rfl⟩,by intro c;cases c⟩
    |true=>
     obtain⟨t,G,rfl,rfl,rfl⟩:=l rfl;have K:mC f p t:=mC.up (f:=f) (g:=({f with steps:=f.steps.filter λa=>!c5 (a.gX∈h.map (·.gX)),bad:=n}:cm)) (λa k=>(hD.1 k).1) rfl B.2 G;refine ae ⟨(by intro c;cases c),λ_=>⟨h,t,f,d,v,b,F,x,K,rfl,rfl,rfl,λa k=>?_⟩⟩
     obtain⟨ac,P,_⟩:=G.ex;have:=(hD.1 (P.mem a k).1).2;simpa using this
theorem adw(b:ak)(c:bE)(p:Int):Be LC b c p=(r7 LC b c p).bind λa=>c7 (a.1,a.2.1,a.2.2.2):=rfl
theorem ann{m:ak}{p:Int}(q:m.af.length<=1000):Ok (v7 LC m p) λr=>0<=r/\r<=1000099:=by
 unfold v7;refine aD (Q:=λr:Int=>0<=r/\r<=1000099) ?_ λr e=>ae e
 have g:∀(i:Nat) (b:Bool),wT m (i:Int) b 2 3 4<=1000099:=λi b=>by
  rcases rF m (i:Int) b (u:=2) (d:=3) (l:=4) (by decide) with h |h <;> omega
 refine di m.af.length (λi a=>a.2=(i:Int)/\0<=a.1/\a.1<=1000099) _ (λi a j f=>?_) (λa f=>?_) _ ⟨rfl,ec _,by decide⟩
 ·obtain⟨k,o⟩:=a;obtain⟨rfl,h0,c⟩:=f;dsimp only at h0 c⊢;unfold Kb;rw[aC,bn,c6 j,aa,AF,AF];have t:=g i false;have s:=g i true;simp only[aa];rw[aJ];refine aD (Q:=λr:Int=>0<=r/\r<=1000099) ?_ λr e=>aD (Q:=λr:Int=>0<=r/\r<=1000099) ?_ λv n=>ae ⟨rfl,n⟩
  ·exact aV (λ_=>ae (by omega)) (λ_=>ae ⟨h0,c⟩)
  ·exact aV (λ_=>ae (by omega)) (λ_=>ae e)
 ·obtain⟨k,o⟩:=a;obtain⟨rfl,h0,c⟩:=f;dsimp only at h0 c⊢;unfold Kb;rw[aG];exact ae ⟨h0,c⟩
theorem xU.time{m:ak}{e:bE}{p:Int}{r:List Int×List Int×ju}{c d:List cS}{f:cm}(h:xU m e p r c d f):(0<=gz c/\gz c<=64006336)/\0<=gz d/\gz d<=64006336:=by
 have j:0<=p/\p<(m.ai.length:Int):=⟨h.there.2.1,by have:=h.there.2.2;omega⟩;have x:=h.p1.len h.fin j;have n:=h.p2.len h.fin j;have u:=h.fin.sM;obtain⟨w,c1,_⟩:=h.p1.ex;obtain⟨o,k,_⟩:=h.p2.ex;have t:=KZ h.fin λs a=>(c1.mem s a).1
 have l:=KZ h.fin λs a=>(k.mem s a).1
 omega
noncomputable def od(a:ak)(b:bE)(p:Int):Bool:=(r6 LC a b p).getD false
theorem L1{m:ak}{e:bE}{p:Int}(w:lO e)(o:Fit m.ai)(u:m.af.length<=1000):Ok (r6 LC m e p) λb=>b=true->∃r d c f a,r7 LC m e p=c7 (r.1,r.2.1,r.2.2,true)/\xU m e p r d c f/\v7 LC m p=c7 a/\(0<=a/\a<=1000099)/\a+gz d<=e.er/\a+gz c<=e.er:=by
 unfold r6;obtain⟨l,q,_,i⟩:=S9 (p:=p) w o;rw[q,aa];obtain⟨k,j,s,v⟩:=l;dsimp only at i⊢;cases v with
 |false=>exact ae (by intro g;cases g)
 |true=>
  obtain⟨d,c,f,h⟩:=i rfl;obtain⟨a,x,t⟩:=ann (m:=m) (p:=p) u;rw[cond_true,x,aa];have y:=h.time;have n:s=⟨gz d,gz c⟩:=h.t;subst n;dsimp only;rw[aJ];refine ae λg=>⟨(k,j,⟨gz d,gz c⟩),d,c,f,a,rfl,h,rfl,t,?_⟩
  have:=of_decide_eq_true g;omega
theorem U2{a:ak}{c:bE}{p:Int}(g:lO c)(e:Fit a.ai)(d:a.af.length<=1000):r6 LC a c p=c7 (od a c p):=by
 obtain⟨b,f,_⟩:=L1 (p:=p) g e d;unfold od;rw[f]
 rfl
theorem Ut{a:List Int}(d:Fit a):EZ LC a []=c7 false:=by
 unfold EZ;have c:zW LC a []=c7 (gg (λ_=>false) a):=by
  unfold zW;refine fF (P:=λb=>E7 LC b []) d (λb _=>?_) λe=>rfl
  unfold E7;rw[contains_eq (by show(0:Nat)<=_;omega),aa];simp
 rw[c,aa,gm];simp
theorem Le{m:ak}{l:List Int}(o:l=[]\/∃a,l=[a])(s:Sm m.ai)(p:Sm m.af):Ok (yB LC m l []) λr=>(r.2=0/\cP m/\∀a,l=[a]->(0<=a/\a<(m.af.length:Int))/\r.1=cY m a)\/r.2≠0:=by
 unfold yB;rw[ko,aa]
 by_cases e:cP m
 rotate_left
 ·rw[decide_eq_false e];exact ae (.inr (by simp))
 have t:=e.1;have u:=e.2.1;have n:Fit l:=by
  show l.length<=_
  rcases o with c |⟨a,c⟩ <;> (rw[c];simp)
 rw[decide_eq_true e,ee,cond_false,aJ,kw _ _ _ n,aa]
 by_cases i:cj 0 ((m.af.length:Int) -1) l
 rotate_left
 ·rw[decide_eq_false i];exact ae (.inr (by simp))
 rw[decide_eq_true i,ee,cond_false,kw _ _ _ (by decide),aa,decide_eq_true cj.nil,ee,cond_false,Ut n,aa,aa,cond_false,mV s,aa,nk p,aa];have k:∀g:List aZ,bO (λd:List aZ×Int=>T4 LC [] d.1 d.2) (g,0)=c7 g:=λg=>fZ rfl
 rcases o with rfl |⟨a,rfl⟩
 ·have h:bO (λd:List aZ×Int=>Cj LC [] d.1 d.2) (m.af,0)=c7 m.af:=fZ rfl;refine c8 h ?_
  refine c8 (k _) ?_
  exact ae (.inl ⟨rfl,e,λa c=>by cases c⟩)
 ·have j:=i.mem (d5.2 rfl);have h:bO (λd:List aZ×Int=>Cj LC [a] d.1 d.2) (m.af,0)=c7 (cY m a).af:=by
   have f:m.af[a.toNat]? =c7 (m.af[a.toNat]'(by omega)):=c6 (by omega);generalize m.af[a.toNat]'(by omega)=r at f;have q:aj m.af a=c7 r:=by unfold aj;rw[if_pos j.1];exact f
   rw[iO (a':=((cY m a).af,1)),fZ (b:=(cY m a).af)]
   ·rfl
   ·dsimp only;unfold Cj;rw[aC (by simp),show aj [a] 0=c7 a from rfl,aa,q,aa,f,aa];unfold cY;rw[f]
    rfl
  refine c8 h ?_
  refine c8 (k _) ?_
  refine ae (.inl ⟨rfl,e,λb c=>?_⟩)
  injection c with c _
  subst c;exact⟨⟨j.1,by omega⟩,rfl⟩
theorem apF{m:ak}{e:bE}{b:aL}{t a:Int}(j:lO e)(l:gF b):Ok (EU LC m e b t a) λi=>i=0->lH m e/\mz m b/\(0<=t/\t<=2147483648)/\0<=a/\a<=2147483648:=by
 unfold EU;rw[Jc j,aa]
 by_cases f:lH m e
 rotate_left
 ·rw[decide_eq_false f];exact ae (by intro c;cases c)
 rw[decide_eq_true f,ee,cond_false];obtain⟨v,k,h⟩:=vB m b l;rw[k,aa,aa];cases v with
 |false=>exact ae (by intro c;cases c)
 |true=>
  rw[ee,cond_false,cF,aa]
  by_cases g:0<=t/\t<=2147483648
  rotate_left
  ·rw[decide_eq_false g];exact ae (by intro c;cases c)
  rw[decide_eq_true g,ee,cond_false,cF,aa,aa]
  by_cases d:0<=a/\a<=2147483648
  rotate_left
  ·rw[decide_eq_false d];exact ae (by intro c;cases c)
  rw[decide_eq_true d];exact ae λ_=>⟨f,h rfl,g,d⟩
theorem LS(b:aL)(c a:Int):(ld b c a).length<=64:=pQ
theorem abM{c:List Int}{a:ak}{b:bE}(m:c.length<=1000000)(j:lO b)(g:Fit a.ai)(f:a.af.length<=1000):zr LC c a b=c7 (c.filter λp=>!od a b p):=by
 have e:∀d,d∈c->w5 LC d a b=c7 (od a b d):=λd _=>by
  unfold w5;rw[U2 j g f,aa]
 unfold zr;have h:ER LC c a b=c7 (gg (od a b) c):=by
  unfold ER;exact fF (by omega) e λk=>rfl
 rw[h,aa];exact Hs (by omega) e λk i l=>rfl
theorem aa8{b a:List Int}(j:b.length<=1000000)(e:Fit a):Av LC b a=c7 (b.filter λp=>!c5 (p∈a)):=by
 have d:∀c,c∈b->za LC c a=c7 (c5 (c∈a)):=λc _=>by
  unfold za;rw[contains_eq e,aa]
 unfold Av;have f:zU LC b a=c7 (gg (λp=>c5 (p∈a)) b):=by
  unfold zU;exact fF (by omega) d λg=>rfl
 rw[f,aa];exact Hs (by omega) d λg i h=>rfl
theorem apc{m:ak}{e:bE}{b:aL}{t:Int}{d:ay}(w:b.aA[0]? =c7 d)(z:d.aH.length<=12)(o:gF b)(x:lO e)(q:Fit m.ai)(j:m.af.length<=1000):Ok (Bo LC m e b t) λc=>c.length<=768/\∀a:Nat,a<d.aH.length->∀p,p∈ld b (a:Int) t->p∈c\/od m e p=true:=by
 unfold Bo;rw[show aj b.aA 0=c7 d from w,aa];refine aD (Q:=λc:List Int=>c.length<=64*d.aH.length/\∀a:Nat,a<d.aH.length->∀p,p∈ld b (a:Int) t->p∈c) ?_ λc u=>?_
 ·refine di d.aH.length (λi f=>f.2=(i:Int)/\f.1.length<=64*i/\∀a:Nat,a<i->∀p,p∈ld b (a:Int) t->p∈f.1) _ (λi f y n=>?_) (λf n=>?_) _ ⟨rfl,by simp,λa k=>absurd k (by omega)⟩
  ·obtain⟨c,a⟩:=f;obtain⟨rfl,h,g⟩:=n;dsimp only at h g⊢;unfold Jp;have A:=LS b (i:Int) t;rw[aC,QC o,aa,aJ];refine aD (akS (by omega)) λr j=>ae ⟨by dsimp only;omega,by have:=j.1;dsimp only;omega,λa k p l=>?_⟩
   dsimp only;rw[j.2]
   by_cases v:a<i
   ·exact .inl (g a v p l)
   ·have:a=i:=by omega
    subst this;exact .inr l
  ·obtain⟨c,a⟩:=f;obtain⟨rfl,h,g⟩:=n;dsimp only at h g⊢;unfold Jp;rw[aG];exact ae ⟨h,g⟩
 ·rw[abM (by omega) x q j,aa];refine ae ⟨f5 (hq _ _) (by omega),λa k p l=>?_⟩
  cases s:od m e p with
  |true=>exact .inr rfl
  |false=>exact .inl (hD.2 ⟨u.2 a k p l,by rw[s];rfl⟩)
theorem gG.pR{m:ak}{b a:aL}{t:Int}(e:gF b)(l:cP m)(h:gG (λx d=>mP m x t d) b.aA a.aA):gF a:=by
 refine⟨by show a.aA.length<=_;rw[h.1];exact e.1,λj A=>?_⟩
 obtain⟨c,o,w,n,u⟩:=h.back A;have:=e.2 c o;refine⟨by rw[w];exact this.tg,by show j.aH.length<=_;rw[n];exact this.wh,λd s=>?_⟩
 obtain⟨k,y,rfl⟩:=d7.1 s;have r:=u k _ _ (c6 (show k<c.aH.length by omega)) (c6 y);have C:=r.new.1.1;have B:=l.1;show _<=1000000
 omega
theorem uF(b:ak)(a:Int):(cY b a).af.length=b.af.length:=by
 unfold cY;dsimp only
 split
 ·rw[d4]
 ·rfl
structure Pp (m:ak) (e:bE) (b:aL) (a:Int) (al:List Int) (t ahead:Int) (r:ak×List Int×Int):Prop where
 fN:cP m
 oV:0<=a/\a<(m.af.length:Int)
 out:r.1=cY m a
 hZ:mz m b
 kI:lH m e
 ex:∃b',kW LC (cY m a) b t=c7 (b',0)/\∀w0,b'.aA[0]? =c7 w0->∀k:Nat,k<w0.aH.length->∀p,p∈ld b' (k:Int) (t+ahead)->p∈al\/od (cY m a) e p=true
theorem Ws{m:ak}{e:bE}{b:aL}{a:Int}{al:List Int}{t ahead:Int}(k:Sm m.ai)(B:Sm m.af)(D:lO e)(o:gF b)(O:Fit al):Ok (zJ LC m e b [a] [] al t ahead) λr=>r.2.1.length<=768/\(r.2.2=0->Pp m e b a al t ahead r):=by
 unfold zJ;obtain⟨q,W,d⟩:=Le (m:=m) (l:=[a]) (.inr ⟨a,rfl⟩) k B;rw[W,aa];rcases d with⟨E,s,d⟩ |d
 rotate_left
 ·rw[aC d];exact ae ⟨by simp,λc=>absurd c d⟩
 obtain⟨F,J⟩:=d a rfl;rw[aG (by rw[E];simp)];obtain⟨S,N,U⟩:=apF (m:=m) (e:=e) (b:=b) (t:=t) (a:=ahead) D o;rw[N,aa]
 by_cases g:S=0
 rotate_left
 ·rw[aC g];exact ae ⟨by simp,λc=>absurd c g⟩
 obtain⟨G,x,ad,ab⟩:=U g;have P:Fit m.ai:=by have:=s.1;show _<=4611686018427387904;omega
 have v:Fit (cY m a).ai:=P;have ah:=s.2.1;rw[aG (by rw[g];simp),J];obtain⟨j,w,H⟩:=Gq (cY m a) b t o v;rw[w,aa];rcases H with⟨f,R,ag,ac,n⟩ |⟨f,_⟩
 rotate_left
 ·rw[aC f];exact ae ⟨by simp,λc=>absurd c f⟩
 have K:=gG.pR o R n;rw[aG (by rw[f];simp),aJ];have i:j.1.aA[0]? =c7 (j.1.aA[0]'(by rw[n.1];omega)):=c6 _;generalize j.1.aA[0]'(by rw[n.1];omega)=Z at i;obtain⟨Q,I,af,Y,_⟩:=n.back (fC i);have aj:=x.len Q I;obtain⟨l,V,y⟩:=apc (m:=cY m a) (e:=e) (t:=t+ahead) i (by omega) K D v (by rw[uF];omega);have A:=y.1;rw[V,aa,bV (by show _<=1000000;omega),aa,aa8 (by omega) O,aa];refine aV (λc=>?_) (λc=>?_)
 ·obtain⟨z,L,_⟩:=Le (m:=m) (l:=[]) (.inl rfl) k B;rw[L,aa];exact ae ⟨f5 (hq _ _) A,λc=>by cases c⟩
 ·refine ae ⟨A,λ_=>⟨s,F,rfl,x,G,j.1,by rw[w, <-f],λai h X M p k=>?_⟩⟩
  rw[i] at h;injection h with h
  subst h;rcases y.2 X M p k with u |u
  ·refine .inl ?_
   have T:l.filter (λp=>!c5 (p∈al))=[]:=List.length_eq_zero_iff.1 (by omega)
   by_cases C:p∈al
   ·exact C
   ·have:=List.filter_eq_nil_iff.1 T p u;simp[C] at this
  ·exact .inr u
theorem zb{a:List aT}(e:Sm a)(j:∀r,r∈a->Sm r.aw):ry LC a=c7 a:=by
 unfold ry;have g:=jm (f:=λd=>tV LC a d.1 d.2) a (λb i=>(b,i)) (λb=>b) (λb r k c=>by
  show tV LC a b (b.length:Int)=_
  unfold tV;have h:=jW e c;rw[aC (iy c),jg c,aa,bV (j r (ks c)),aa,dm (by decide) h,aa,aJ]) (by
  show tV LC a a (a.length:Int)=_
  unfold tV;rw[aG])
 exact(dL g).trans rfl
theorem Sv{a:List aT}(b:Sm a)(c:∀r,r∈a->Sm r.aw):zp LC a=c7 a:=zb b c
theorem sF{b:aL}(d:gF b):pf LC b=c7 b:=by
 unfold pf;have g:=jm (f:=λe=>sB LC b e.1 e.2) b.aA (λa i=>(a,i)) (λa=>a) (λa r j c=>by
  show sB LC b a (a.length:Int)=_
  unfold sB;have h:=jW d.1 c;rw[aC (iy c),jg c,aa,Tz (d.2 r (ks c)),aa,dm (by decide) h,aa,aJ]) (by
  show sB LC b b.aA (b.aA.length:Int)=_
  unfold sB;rw[aG])
 exact(dL g).trans rfl
structure EW (p:aE):Prop where
 tr:ny p.au
 pl:Sm p.ao.ai
 rd:Sm p.ao.af
 fl:Sm p.cI
 es:Sm p.bR.Safe
 eb:Sm p.bR.dg
 eh:Sm p.bR.dG
 ba:Sm p.bM.bT
 pe:Sm p.cq
 pt:∀r,r∈p.cq->Sm r.aw
 he:Sm p.bZ
 ht:∀r,r∈p.bZ->Sm r.aw
 il:Sm p.cW.dl
 io:Sm p.cW.dr
 be:gF p.bw
 se:gF p.bq
 sm:Sm p.bz.an
 kr:Sm p.Keys.af
 kk:Sm p.Keys.Keys
 al:Sm p.bS
 lg:Sm p.bB
 ln:∀h,h∈p.bB->Sm h.ll
theorem abi{p:aE}(a:EW p):wc LC p=c7 p:=by
 unfold wc;obtain⟨q,e,h⟩:=HQ a.tr.fit;rw[e,aa,mV a.pl,aa,nk a.rd,aa,zS a.fl,aa,bV a.es,aa,bV a.eb,aa,bV a.eh,aa,bV a.ba,aa,zb a.pe a.pt,aa,zb a.he a.ht,aa,bV a.il,aa,bV a.io,aa,sF a.be,aa,sF a.se,aa,bV a.sm,aa,bV a.kr,aa,bV a.kk,aa,wE a.al,aa,h];have g:=jm (f:=λd=>tO LC p (sN d) (sE d)) p.bB (λb i=>u16 ({p with bB:=b}:aE) i) (λb=>lR ({p with bB:=b}:aE)) (λb r k c=>by
  show tO LC p ({p with bB:=b}:aE) (b.length:Int)=_
  unfold tO;have j:=jW a.lg c;rw[aC (iy c),jg c,aa,bV (a.ln r (ks c)),aa,dm (by decide) j,aa,aJ]) (by
  show tO LC p p (p.bB.length:Int)=_
  unfold tO;rw[aG])
 exact(dL g).trans rfl
theorem abE{p:aE}(a:EW p):Cp LC p=c7 (OE p):=by
 unfold Cp;obtain⟨q,e,h⟩:=HQ a.tr.fit;rw[e,aa,mV a.pl,aa,nk a.rd,aa,zS a.fl,aa,bV a.es,aa,bV a.eb,aa,bV a.eh,aa,bV a.ba,aa,zb a.pe a.pt,aa,zb a.he a.ht,aa,bV a.il,aa,bV a.io,aa,sF a.be,aa,sF a.se,aa,bV a.sm,aa,bV a.kr,aa,bV a.kk,aa,wE a.al,aa,h];have g:=jm (f:=λd=>uo LC p (sN d) (sE d)) p.bB (λb i=>u16 ({p with bB:=b}:aE) i) (λb=>lR ({p with bB:=b}:aE)) (λb r k c=>by
  show uo LC p ({p with bB:=b}:aE) (b.length:Int)=_
  unfold uo;have j:=jW a.lg c;rw[aC (iy c),jg c,aa,bV (a.ln r (ks c)),aa,dm (by decide) j,aa,aJ]) (by
  show uo LC p p (p.bB.length:Int)=_
  unfold uo;rw[aG])
 exact(dL g).trans rfl
theorem aiT{p:aE}(a:EW p):Dr LC p=c7 (IW p):=by
 unfold Dr;obtain⟨q,e,h⟩:=HQ a.tr.fit;rw[e,aa,mV a.pl,aa,nk a.rd,aa,zS a.fl,aa,bV a.es,aa,bV a.eb,aa,bV a.eh,aa,bV a.ba,aa,Sv a.pe a.pt,aa,Sv a.he a.ht,aa,bV a.il,aa,bV a.io,aa,sF a.be,aa,sF a.se,aa,bV a.sm,aa,bV a.kr,aa,bV a.kk,aa,wE a.al,aa,h];have g:=jm (f:=λd=>uS LC p (Rx p.cq p.bZ d) (Tu d)) p.bB (λb i=>J3 ({p with bB:=b}:aE) i) (λb=>Mj ({p with bB:=b}:aE)) (λb r k c=>by
  show uS LC p ({p with bB:=b}:aE) (b.length:Int)=_
  unfold uS;have j:=jW a.lg c;rw[aC (iy c),jg c,aa,bV (a.ln r (ks c)),aa,dm (by decide) j,aa,aJ]) (by
  show uS LC p p (p.bB.length:Int)=_
  unfold uS;rw[aG])
 exact(dL g).trans rfl
structure fM (n np:Nat) (b:aL):Prop where
 num:b.aA.length<=24
 mX:∀w,w∈b.aA->j0 n np w/\w.aw.length=n
theorem fM.pR{n np:Nat}(l:n<=3)(j:np<=64){b:aL}(h:fM n np b):gF b:=⟨cX h.num (by decide),λa c=>by
 obtain⟨⟨m,d⟩,k⟩:=h.mX a c;exact⟨cX (n:=3) (by omega) (by decide),cX (n:=3) (by omega) (by decide),λx e=>cX (n:=64) (by have:=d x e;omega) (by decide)⟩⟩
theorem fM.nil{n np:Nat}:fM n np ⟨[]⟩:=⟨by simp,λc a=>by cases a⟩
theorem fM.aX{n np:Nat}{j:aM->aM->Prop}{C:aM->Prop}{m:ak}{tag:Int}{b e:aL}(h:fM n np b)(D:∀x a,j x a->x.an.length=np->a.an.length=np)(l:oG j C m tag b e):fM n np e:=by
 refine⟨f5 l.n.len h.num,λs B=>?_⟩
 obtain⟨k,w,i,x,a,E,u,y,rfl⟩:=l.n.from_ s B;obtain⟨⟨o,d⟩,t⟩:=h.mX k w;refine⟨⟨by show(k.aH.set i a).length=n;rw[d4];exact o,λA c=>?_⟩,t⟩
 rcases e4 c with c |rfl
 ·exact d A c
 ·exact D x _ y (d x (fC u))
theorem fM.Np{n np:Nat}{m:ak}{i d t:Int}{b a:aL}(h:fM n np b)(e:AY m i d t n np b a):fM n np a:=by
 refine⟨e.num,λo y=>?_⟩
 obtain⟨D,A,B,C,E,x⟩:=e.ex;obtain⟨l,c,s,u⟩:=A.c o y;refine⟨l,?_⟩
 rw[u];rcases x c s with w |⟨j,k,rfl⟩
 ·exact(h.mX c w).2
 ·have:=(h.mX j k).2;show(gL i d j.aw).length=n
  unfold gL
  split
  ·rw[d4,d4];exact this
  ·exact this
theorem fM.renew{n np:Nat}{m:ak}{t:Int}{b a:aL}(h:fM n np b)(l:m.ai.length=np)(d:gG (λx e=>mP m x t e) b.aA a.aA):fM n np a:=by
 refine⟨by rw[d.1];exact h.num,λC y=>?_⟩
 obtain⟨c,o,A,E,u⟩:=d.back y;obtain⟨⟨B,D⟩,j⟩:=h.mX c o;refine⟨⟨by omega,λe s=>?_⟩,by rw[A];exact j⟩
 obtain⟨k,w,rfl⟩:=d7.1 s;have r:=u k _ _ (c6 (show k<c.aH.length by omega)) (c6 w);rw[r.new.1.1,l]
theorem fM.shut{n np:Nat}{m:ak}{u:List Int}{t:Int}{b a:aL}(h:fM n np b)(s:Ff m b u t n np a):fM n np a:=by
 obtain⟨C,A,D,c,d⟩:=s.ex;refine⟨f5 d.d (by rw[c.1];exact h.num),λk x=>?_⟩
 obtain⟨j,B,o,l⟩:=d.c k x;obtain⟨w,e,y,_⟩:=c.back o;exact⟨j,by rw[l,y];exact(h.mX w e).2⟩
theorem Ro{e:ak}{d:Nat}(f:e.ai.length=d){h:List Int}{g j:Int}:∀b a:aM,(a=b\/lG e b h g j a)->b.an.length=d->a.an.length=d:=λb a c i=>by
 rcases c with rfl |c
 ·exact i
 ·rw[c.new.1.1,f]
theorem T3{e:ak}{d:Nat}(f:e.ai.length=d){i:List Int}{h l k:Int}:∀b a:aM,(a=b\/∃m,og e b i h l k a m)->b.an.length=d->a.an.length=d:=λb a c j=>by
 rcases c with rfl |⟨g,c⟩
 ·exact j
 ·rw[c.new.1.1,f]
structure dW (n np:Nat) (p:aE):Prop where
 n3:1<=n/\n<=3
 kN:ny p.au
 fN:p.au.ao=p.ao
 gq:cP p.ao
 gk:p.ao.ai.length=np
 iz:p.au.aN.length=n
 jR:p.au.aQ.length<=3
 kj:p.au.bp.length=p.au.aQ.length
 uD:p.cI.length=p.ao.af.length
 kI:lO p.bR/\Sm p.bR.Safe/\Sm p.bR.dg/\Sm p.bR.dG
 qx:Sm p.bM.bT
 kn:p.cq.length=p.au.aQ.length
 rX:∀r,r∈p.cq->r.aw.length<=1000
 uB:p.bZ.length<=60
 rW:∀r,r∈p.bZ->r.aw.length<=1000
 int:Sm p.cW.dl/\Sm p.cW.dr
 hZ:fM n np p.bw
 bne:p.bw.aA≠[]
 je:fM n np p.bq
 pq:p.bz.an=[]\/p.bz.an.length=np
 key:ff p.Keys
 jY:cj 0 ((p.ao.af.length:Int) -1) p.Keys.af
 iI:VA p.bS
 log:p.bB.length<=200
 uC:∀h,h∈p.bB->h.ll.length<=768
theorem dW.mq{n np:Nat}{p:aE}(h:dW n np p):np<=64:=by have:=h.gq.1;have:=h.gk;omega
theorem dW.lC{n np:Nat}{p:aE}(h:dW n np p):EW p:=by
 have j:=h.mq;have c:=h.gq;have d:=h.n3;refine⟨h.kN,cX c.1 (by decide),cX c.2.1 (by decide),cX (n:=128) (by have:=h.uD;have:=c.2.1;omega) (by decide),h.kI.2.1,h.kI.2.2.1,h.kI.2.2.2,h.qx,cX (n:=3) (by have:=h.kn;have:=h.jR;omega) (by decide),λr a=>cX (h.rX r a) (by decide),cX h.uB (by decide),λr a=>cX (h.rW r a) (by decide),h.int.1,h.int.2,h.hZ.pR d.2 j,h.je.pR d.2 j,?_,h.key.sm.1,h.key.sm.2,cX h.iI.1 (by decide),cX h.log (by decide),λx k=>cX (h.uC x k) (by decide)⟩
 rcases h.pq with e |e
 ·rw[e];show(0:Nat)<=_;decide
 ·exact cX (n:=64) (by omega) (by decide)
theorem U4{d e:Nat}{p:aE}(a:dW d e p):Ok (zj LC p) λb=>b=true->fw p.au:=by
 classical
 unfold zj;rw[xf _ a.kN.fit,aa]
 by_cases c:fw p.au
 rotate_left
 ·rw[decide_eq_false c];exact ae (by intro a;cases a)
 rw[decide_eq_true c,cond_true,ko,aa,decide_eq_true a.gq,cond_true,aC (by have:=a.kn;omega),aC (by have:=a.uD;omega),aC (by have:=List.length_pos_iff.2 a.bne;omega),tA (f5 a.key.sm.1 (by decide)),aa];exact ae λ_=>c
end Go.X.T
