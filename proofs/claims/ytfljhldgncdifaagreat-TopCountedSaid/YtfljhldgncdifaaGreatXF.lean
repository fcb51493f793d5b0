/- For TopCounted, part 6. -/
import Derived.Test.YtfljhldgncdifaaGreatXE
set_option linter.defProp false
set_option linter.unusedVariables false
set_option linter.unusedSimpArgs false
open Go.IntKind renaming wrap → c3, i64 → c4, u64 → hQ
open Decidable renaming decide → c5, byContradiction → dv, not_not → ej
open List renaming getElem?_eq_getElem → c6, getElem_mem → dd, getElem?_eq_some_iff → dt, length_set → dT, mem_singleton → e0, mem_append → e4, mem_iff_getElem → e5, length_replicate → e6, length_take → ea, replicate → ec, getD_eq_getElem?_getD → ee, zipWith → ef, length_append → eo, mem_or_eq_of_mem_set → ev, length_cons → ez, length_map → eE, getElem?_append_right → eH, length_zipWith → ga, drop_eq_getElem_cons → gb, getElem?_set_self → gv, eq_of_mem_replicate → gx, take_length → gy, length_drop → h5, getElem?_append_left → h6, pairwise_iff_getElem → h7, getElem?_set_ne → hq, getElem?_replicate → hz, append_assoc → hB, getElem?_set → hI, map_append → hK, length_nil → hL, take_of_length_le → hM, mem_iff_getElem? → hP, getElem_zipWith → hS, perm_singleton → hU, set_cons_zero → hX, drop_of_length_le → ie, getElem?_eq_none → ih, mem_map → j8, drop_zero → j9, any_eq_false → k0, set_append_right → k8, length_filter_le → kd, mem_cons → kl, map_cons → km, take_append_of_le_length → l0, mem_filter → l1, set_cons_succ → l2, getElem?_take → l3, pairwise_cons → l4, ext_getElem? → la, nil_append → m6, mem_range → ma, filter_eq_self → mx, take_set_of_le → my, sum_cons → n1, filter_append → ng, take_add_one → o1, getElem_take → o2, flatMap_cons → o6, getElem?_map → o7, any_eq_true → o8, getElem_map → o9, getElem_set → oj, getD → oo, cons_append → oq, append_nil → p0, foldl_cons → p6, take_take → q2, mem_set → q8
open Option renaming some → c7, none → j4, map_some → pc, bind → qb
open Int renaming toNat_natCast → dk, le_refl → ey, fdiv_eq_ediv_of_nonneg → j1, eq_ofNat_of_zero_le → j6, emod_add_mul_ediv → kc, zero_add → m4, mul_le_mul → mb, mul_assoc → n0, pow_succ → o3, mul_comm → o4, ediv_le_self → oi, ediv_nonneg → p4, natCast_pow → p7, lt_irrefl → q3, add_zero → q4, zero_mul → q5, le_trans → q6
open Sum renaming elim_inr → ei, elim_inl → ft, inl → m0
open Bool renaming not_true → fe, false_eq_true → hY, or_eq_false_iff → j3, not_false → k7, eq_iff_iff → m5
open Nat renaming le_refl → h8, le_trans → h9, sub_self → j7, mod_eq_of_lt → kh, zero_add → m2, add_sub_cancel → n2, zero_le → oS, add_zero → q7, min_self → qa
open List.Perm renaming cons_inv → hD, swap → k6
open BitVec renaming ofInt_natCast → j2, toNat_ofNat → j5, ofInt → m3
open Classical renaming propDecidable → m1
namespace Go.X.T
open Go Go.Aml
structure ny (x:aB):Prop where
 pl:Sm x.ao.ai
 rd:Sm x.ao.af
 pe:Sm x.aN
 tg:Sm x.aw
 rs:Sm x.aQ
 rp:∀r,r∈x.aQ->Sm r.ai
 nu:Sm x.cn
 lo:Sm x.cf
 mi:Sm x.bp
 mr:∀l,l∈x.bp->Sm l
def cX{d:Type}{a:List d}{n:Nat}(b:a.length<=n)(c:n<=1000000):Sm a:=h9 b c
def fw.sm{x:aB}(h:fw x):ny x:=by
 obtain⟨⟨d,j,l⟩,k,w,A,t,E,B,u,m,y⟩:=h;refine⟨cX d.1 (by decide),cX d.2.1 (by decide),cX k.2 (by decide),cX (n:=12) (by omega) (by decide),cX j (by decide),λr o=>?_,cX (n:=32) (by omega) (by decide),cX (n:=32) (by omega) (by decide),cX (n:=32) (by omega) (by decide),λD s=>?_⟩
 .have:=(l r o).2.1.len (by omega);have:=d.1;exact cX (n:=64) (by omega) (by decide)
 .obtain⟨i,hi,rfl⟩:=e5.1 s;obtain⟨r,a,b,c,_,_,_,e,_,_,_,C,_⟩:=m i (by omega);rw[c6 hi] at e;injection e with e
  rw[e];exact cX (n:=12) (by omega) (by decide)
def ny.fit{x:aB}(h:ny x):∀r,r∈x.aQ->Fit r.ai:=λr a=>h9 (h.rp r a) (by decide)
def jW{b:Type}{a done e:List b}{d:b}(f:Sm a)(c:a=done++d::e):done.length<=2000000:=by
 have g:a.length<=1000000:=f;have:=iy c;omega
def jZ{c:Type}{a:List c}(b:Sm a):a.length<=1000000:=b
def dL{b e:Type}{m:Option b}{a:b}{c:b->Option e}(d:m=c7 a):m.bind c=c a:=by subst d;rfl
def agL{x:aB}(b:ny x):yS LC x=c7 x:=by
 unfold yS;rw[mV b.pl,aa,nk b.rd,aa,Ep b.pe,aa,bV b.tg,aa];have h:=jm (f:=λd=>ue LC x (Oe d) (Nk d)) x.aQ (λa i=>u9 ({x with aQ:=a}:aB) i) (λa=>u3 ({x with aQ:=a}:aB)) (λa r j c=>by
  show ue LC x ({x with aQ:=a}:aB) (a.length:Int)=_
  unfold ue;have e:=jW b.rs c;rw[aC (iy c),jg c,aa,bV (b.rp r (ks c)),aa,dm (by decide) e,aa,aJ]) (by
  show ue LC x x (x.aQ.length:Int)=_
  unfold ue;rw[aG])
 refine(dL h).trans ?_
 dsimp only;rw[bV b.nu,aa,bV b.lo,aa];have g:=jm (f:=λd=>tG LC x (CU d) (Eg d)) x.bp (λa i=>u1 ({x with bp:=a}:aB) i) (λa=>u3 ({x with bp:=a}:aB)) (λa r j c=>by
  show tG LC x ({x with bp:=a}:aB) (a.length:Int)=_
  unfold tG;have e:=jW b.mi c;rw[aC (iy c),jg c,aa,bV (b.mr r (ks c)),aa,dm (by decide) e,aa,aJ]) (by
  show tG LC x x (x.bp.length:Int)=_
  unfold tG;rw[aG])
 exact(dL g).trans rfl
def Sy{a:aB}(c:ny a):yC LC a=c7 (B7 a):=by
 unfold yC;rw[mV c.pl,aa,nk c.rd,aa,Ep c.pe,aa,bV c.tg,aa];have j:=jm (f:=λe=>sK LC a (Pa a.aN e) (Oj e)) a.aQ (λb i=>Ga ({a with aQ:=b}:aB) i) (λb=>DY ({a with aQ:=b}:aB)) (λb r k d=>by
  show sK LC a ({a with aQ:=b}:aB) (b.length:Int)=_
  unfold sK;have g:=jW c.rs d;rw[aC (iy d),jg d,aa,bV (c.rp r (ks d)),aa,dm (by decide) g,aa,aJ]) (by
  show sK LC a a (a.aQ.length:Int)=_
  unfold sK;rw[aG])
 refine(dL j).trans ?_
 dsimp only;rw[bV c.nu,aa,bV c.lo,aa];have h:=jm (f:=λe=>vc LC a (LU a.aN e) (Tv e)) a.bp (λb i=>J4 ({a with bp:=b}:aB) i) (λb=>DY ({a with bp:=b}:aB)) (λb r k d=>by
  show vc LC a ({a with bp:=b}:aB) (b.length:Int)=_
  unfold vc;have g:=jW c.mi d;rw[aC (iy d),jg d,aa,bV (c.mr r (ks d)),aa,dm (by decide) g,aa,aJ]) (by
  show vc LC a a (a.bp.length:Int)=_
  unfold vc;rw[aG])
 exact(dL h).trans rfl
def ans{a:aB}(c:ny a):D6 LC a=c7 (MF a):=by
 unfold D6;rw[mV c.pl,aa,nk c.rd,aa,Ep c.pe,aa,bV c.tg,aa];have j:=jm (f:=λe=>tW LC a (MR a.ao.af a.aN e) (L9 e)) a.aQ (λb i=>KL ({a with aQ:=b}:aB) i) (λb=>CD ({a with aQ:=b}:aB)) (λb r k d=>by
  show tW LC a ({a with aQ:=b}:aB) (b.length:Int)=_
  unfold tW;have g:=jW c.rs d;rw[aC (iy d),jg d,aa,bV (c.rp r (ks d)),aa,dm (by decide) g,aa,aJ]) (by
  show tW LC a a (a.aQ.length:Int)=_
  unfold tW;rw[aG])
 refine(dL j).trans ?_
 dsimp only;rw[bV c.nu,aa,bV c.lo,aa];have h:=jm (f:=λe=>va LC a (R4 a.ao.af a.aN e) (Lw e)) a.bp (λb i=>IC ({a with bp:=b}:aB) i) (λb=>CD ({a with bp:=b}:aB)) (λb r k d=>by
  show va LC a ({a with bp:=b}:aB) (b.length:Int)=_
  unfold va;have g:=jW c.mi d;rw[aC (iy d),jg d,aa,bV (c.mr r (ks d)),aa,dm (by decide) g,aa,aJ]) (by
  show va LC a a (a.bp.length:Int)=_
  unfold va;rw[aG])
 exact(dL h).trans rfl
def oc{a:aB}(c:ny a){k:Type}(g:List bP->List aZ->Int->List bC->List Int->List aS->List Int->List Int->Option k):
 FD LC a g=g a.ao.ai a.ao.af a.aa0 a.aN a.aw a.aQ a.cn a.cf:=by
 unfold FD;rw[mV c.pl,aa,nk c.rd,aa,Ep c.pe,aa,bV c.tg,aa];have j:=jm (f:=λb=>DC LC a b.1 b.2.1 b.2.2.1 b.2.2.2.1 b.2.2.2.2.1 b.2.2.2.2.2.1 b.2.2.2.2.2.2.1 b.2.2.2.2.2.2.2.1 b.2.2.2.2.2.2.2.2) a.aQ (λd i=>(a.ao.ai,a.ao.af,a.aa0,a.aN,a.cn,a.cf,a.bp,d,i)) (λd=>(a.ao.ai,a.ao.af,a.aa0,a.aN,d,a.cn,a.cf,a.bp)) (λd r l e=>by
  dsimp only;unfold DC;have h:=jW c.rs e;rw[aC (iy e),jg e,aa,bV (c.rp r (ks e)),aa,dm (by decide) h,aa,aJ]) (by
  dsimp only;unfold DC;rw[aG])
 refine(dL j).trans ?_
 dsimp only;rw[bV c.nu,aa,bV c.lo,aa]
def other(a:ak)(i p:Int):Int:=if 0<=i then(match a.af[i.toNat]? with |some r=>if p=r.an then r.To else if p=r.To then r.an else -1 |none=>-1) else -1
def ajF(a:ak)(i p:Int):CX LC a i p=c7 (other a i p):=by
 unfold CX other;rw[ew rfl,aa]
 by_cases d:i<0\/(a.af.length:Int)<=i
 .rw[aC d]
  by_cases h0:0<=i
  .rw[if_pos h0,ih (by omega)]
  .rw[if_neg h0]
 .have e:i.toNat<a.af.length:=by omega
  rw[aG d,qC (by omega) (by omega),aa,if_pos (by omega),c6 e];dsimp only
  by_cases b:p=a.af[i.toNat].an
  .rw[aC b,if_pos b]
  .rw[aG b,if_neg b]
   by_cases c:p=a.af[i.toNat].To
   .rw[aC c,if_pos c]
   .rw[aG c,if_neg c]
def NJ{b:Type}{f:List b×Int->Option ((List b×Int)⊕List b)}(g:b->b)(a:List b)
 (h:∀(i:Nat) (aK:List b) (e:b),i<a.length->aK.length=a.length->aK[i]?=c7 e->a[i]?=c7 e->f (aK,(i:Int))=c7 (.inl (aK.set i (g e),(i:Int)+1)))
 (j:∀aK:List b,aK.length=a.length->f (aK,(a.length:Int))=c7 (.inr aK)):bO f (a,0)=c7 (a.map g):=by
 have:=nV (f:=f) a.length (λi=>((a.take i).map g++a.drop i,(i:Int))) (a.map g) (λi c=>?_) (by
  have:=j ((a.take a.length).map g++a.drop a.length) (by simp);rw[this];simp)
 .simpa using this
 .have d:((a.take i).map g).length=i:=by rw[eE,ea];omega
  have l:((a.take i).map g++a.drop i)[i]?=c7 a[i]:=by
   rw[eH (by omega),d,j7,gb c];rfl
  rw[h i _ a[i] c (by rw[eo,d,h5];omega) l (c6 c)];have k:((a.take i).map g++a.drop i).set i (g a[i])=(a.take (i+1)).map g++a.drop (i+1):=by
   rw[k8 _ _ (by omega),d,j7,gb c,hX, <-List.take_append_getElem c,hK,hB]
   rfl
  rw[k]
  rfl
def uf(c:ak)(b:Int)(a:bC):bC:=if a.akw<0 then a else if a.ami -b<=0 then⟨other c a.akw a.abG,-1,0⟩ else⟨a.abG,a.akw,a.ami -b⟩
def x7(a:aB)(b:Int):aB:={a with aa0:=a.aa0+b,aN:=a.aN.map (uf a.ao b)}
def ou{d:Type}{a:List d}{i:Nat}{e:d}(b:a[i]?=c7 e):a.set i e=a:=by
 apply la
 intro f;rw[hI]
 by_cases c:i=f
 .subst c;have:=(dt.1 b).1;rw[if_pos rfl,if_pos this,b]
 .rw[if_neg c]
def RE{a:aB}(b:Int)(l:∀r,r∈a.aQ->Fit r.ai):Ok (qp LC a b) λr=>(r.2≠0/\r.1=a)\/(r.2=0/\fw a/\0<=b/\a.aa0+b<=2147483648/\r.1=x7 a b):=by
 unfold qp;rw[xf a l,aa,de]
 by_cases c:fw a
 rotate_left
 .rw[aG c];exact ae (.inl ⟨by simp,rfl⟩)
 rw[aC c,cF,aa,de];have t:=c.2.2.2.2.1;refine aV (λk=>?_) (λk=>ae (.inl ⟨by simp,rfl⟩))
 rw[aJ (n:=a.aa0+b)];refine aV (λp=>ae (.inl ⟨by simp,rfl⟩)) (λp=>?_)
 rw[Sy c.sm,aa];have s:bO (λe=>vz LC (Bi (B7 a)) b a e.1 e.2) ((Bi (B7 a)).aN,0)=c7 (a.aN.map (uf a.ao b)):=by
  refine NJ (f:=λe=>vz LC a b a e.1 e.2) (uf a.ao b) a.aN (λi aK d w q j o=>?_) (λaK q=>?_)
  .dsimp only;unfold vz;have u:=c.2.1;rw[aC,bn,j,aa,dk,j,aa,aJ (n:=(i:Int)+1)];have m:=c.2.2.2.2.2.2.2.2.2 d (fC o);have v:0<=d.ami/\d.ami<=2147483648:=by
    have:=m.2
    split at this <;> omega
   rw[aJ (n:=d.ami -b)];unfold uf
   by_cases h:d.akw<0
   .rw[aC h,if_pos h,aa,ou j]
   .rw[aG h,if_neg h]
    by_cases g:d.ami -b<=0
    .rw[aC g,if_pos g,ajF,aa,aa,aa,aa,aa]
    .rw[aG g,if_neg g,aa,aa,aa,aa]
  .dsimp only;unfold vz;rw[aG]
 dsimp only;refine c8 s ?_
 refine ae (.inr ⟨rfl,c,k.1,by omega,?_⟩)
 show({a with aa0:=c3 c4 (a.aa0+b),aN:=_}:aB)=x7 a b
 rw[aJ]
 rfl
def WV{a:aB}(g:fw a):x7 a 0=a:=by
 unfold x7;have f:a.aN.map (uf a.ao 0)=a.aN:=by
  conv=>rhs;rw[<-List.map_id a.aN]
  refine List.map_congr_left λc e=>?_
  unfold uf;have d:=(g.2.2.2.2.2.2.2.2.2 c e).2
  by_cases b:c.akw<0
  .rw[if_pos b];rfl
  .rw[if_neg b];rw[if_neg (by omega)] at d;rw[if_neg (by omega),Int.sub_zero];rfl
 rw[f,q4]
def HQ{b:aB}(c:∀r,r∈b.aQ->Fit r.ai):Ok (qp LC b 0) λr=>r.1=b:=by
 refine WI (RE 0 c) λr a=>?_
 rcases a with a |⟨_,a,_,_,d⟩
 .exact a.2
 .rw[d,WV a]
def LZ{c:aB}(a:List Int)(j:∀r,r∈c.aQ->Fit r.ai)(o:a.length<=100):Ok (wv LC c a) λf=>(f=0->fw c/\∀i,i∈a->0<=i/\i<(c.aN.length:Int)):=by
 unfold wv;rw[xf c j,aa,de]
 by_cases e:fw c
 rotate_left
 .rw[aG e];exact ae λb=>absurd b (by simp)
 rw[aC e];have m:=e.2.1;have f:bO (λg=>wC LC a c g) 0=c7 (if ∀i,i<a.length->(λi:Nat=>c5 (¬(0<=a.getD i 0/\a.getD i 0<=(c.aN.length:Int) -1))) i=false then .inr () else .inl ()):=by
  refine oD _ _ () (λi d=>?_) ?_
  .unfold wC;rw[aC,uu d,aa,aJ (n:=(c.aN.length:Int) -1),cF,aa,aJ]
   by_cases b:0<=a.getD i 0/\a.getD i 0<=(c.aN.length:Int) -1
   .rw[decide_eq_true b,decide_eq_false (λh=>h b)];rfl
   .rw[decide_eq_false b,decide_eq_true b];rfl
  .unfold wC;rw[aG]
 rw[show LC.loop (λg=>wC LC a c g) 0=_ from f,aa]
 by_cases b:∀i,i<a.length->0<=a.getD i 0/\a.getD i 0<=(c.aN.length:Int) -1
 .rw[if_pos (λi d=>decide_eq_false (λh=>h (b i d)))];refine ae λ_=>⟨e,λp l=>?_⟩
  obtain⟨i,d,rfl⟩:=e5.1 l;have:=b i d;rw[pu (c6 d)] at this;omega
 .rw[if_neg (λk=>b λi d=>by have:=of_decide_eq_false (k i d);exact dv this)];exact ae λb=>absurd b (by simp)
def set_set{b:Type}(a:List b)(i:Nat)(d c:b):(a.set i d).set i c=a.set i c:=List.set_set _
def ahi{b:aB}(i r e:Int)(m:∀r,r∈b.aQ->Fit r.ai):Ok (B1 LC b i r e) λq=>(q.2≠0/\q.1=b)\/
 (q.2=0/\fw b/\0<=i/\(0<=e/\e<=3600)/\∃a,b.aN[i.toNat]?=c7 a/\a.akw<0/\0<=mQ b.ao r a.abG/\q.1={b with aN:=b.aN.set i.toNat ⟨a.abG,r,mQ b.ao r a.abG+e⟩}):=by
 unfold B1;refine aD (LZ [i] m (by simp)) λz s=>?_
 refine aV (λc=>ae (.inl ⟨c,rfl⟩)) (λc=>?_)
 obtain⟨h,f⟩:=s (ej.1 c);have f:=f i (by simp);have g:b.aN[i.toNat]?=c7 (b.aN[i.toNat]'(by omega)):=c6 (by omega);generalize b.aN[i.toNat]'(by omega)=a at g;have k:∀l:List bC,l[i.toNat]?=c7 a->aj l i=c7 a:=λl n=>by
  unfold aj;rw[if_pos f.1];exact n
 have t:=h.1.1;have:=t.2.1;rw[k _ g,aa,Tt _ _ _ (by omega),aa];refine aV (λc=>ae (.inl ⟨by simp,rfl⟩)) (λy=>?_)
 refine aV (λc=>ae (.inl ⟨by simp,rfl⟩)) (λw=>?_)
 rw[cF,aa,de];refine aV (λp=>?_) (λc=>ae (.inl ⟨by simp,rfl⟩))
 rw[Sy h.sm,aa];have o:i.toNat<b.aN.length:=by omega
 show Ok ((aj b.aN i).bind _) _
 rw[k _ g,aa];show Ok ((b.aN[i.toNat]?).bind _) _
 rw[g,aa];have j:(b.aN.set i.toNat (bC.mk a.abG r a.ami))[i.toNat]?=c7 (bC.mk a.abG r a.ami):=gv o;have v:aj (b.aN.set i.toNat (bC.mk a.abG r a.ami)) i=c7 (bC.mk a.abG r a.ami):=by unfold aj;rw[if_pos f.1];exact j
 show Ok ((aj (b.aN.set i.toNat (bC.mk a.abG r a.ami)) i).bind _) _
 rw[v,aa];show Ok (((b.aN.set i.toNat (bC.mk a.abG r a.ami))[i.toNat]?).bind _) _
 rw[j,aa];refine ae (.inr ⟨rfl,h,f.1,p,a,rfl,by omega,by omega,?_⟩)
 show({b with aN:=(b.aN.set i.toNat (bC.mk a.abG r a.ami)).set i.toNat (bC.mk a.abG r (c3 c4 (mQ b.ao r a.abG+e)))}:aB)=_
 have x:mQ b.ao r a.abG<=1000099:=by
  unfold mQ;have A:=rF b.ao r false (u:=6) (d:=9) (l:=12) (by decide);have B:=rF b.ao r true (u:=6) (d:=9) (l:=12) (by decide)
  split
  .split
   .split
    .omega
    .split <;> omega
   .omega
  .omega
 rw[set_set,aJ]
def cY(a:ak)(i:Int):ak:=⟨a.ai,match a.af[i.toNat]? with |some r=>a.af.set i.toNat {r with eN:=true} |none=>a.af⟩
def n8(i:Int)(a:bC):bC:=if a.akw=i then⟨a.abG,-1,0⟩ else a
def Uf{x:aB}(i:Int)(h:∀r,r∈x.aQ->Fit r.ai):Ok (wO LC x i) λq=>(q.2≠0/\q.1=x)\/
 (q.2=0/\fw x/\0<=i/\(∃r,x.ao.af[i.toNat]?=c7 r/\r.eN=false)/\q.1={x with ao:=cY x.ao i,aN:=x.aN.map (n8 i)}):=by
 unfold wO;rw[xf x h,aa,de]
 by_cases a:fw x
 rotate_left
 .rw[aG a];exact ae (.inl ⟨by simp,rfl⟩)
 rw[aC a];have p:=a.1.1.2.1;rw[aJ (n:=(x.ao.af.length:Int) -1),cF,aa,de]
 by_cases c:0<=i/\i<=(x.ao.af.length:Int) -1
 rotate_left
 .rw[aG c,aa];exact ae (.inl ⟨by simp,rfl⟩)
 have e:x.ao.af[i.toNat]?=c7 (x.ao.af[i.toNat]'(by omega)):=c6 (by omega);generalize x.ao.af[i.toNat]'(by omega)=r at e;have g:aj x.ao.af i=c7 r:=by unfold aj;rw[if_pos c.1];exact e
 rw[aC c,g,aa,aa];cases l:r.eN with
 |true=>exact ae (.inl ⟨by simp,rfl⟩)
 |false=>
  simp only[cond_false];rw[ans a.sm,aa];show Ok ((aj x.ao.af i).bind _) _
  rw[g,aa];show Ok ((x.ao.af[i.toNat]?).bind _) _
  rw[e,aa];have k:bO (λb=>vt LC x i b.1 b.2) (x.aN,0)=c7 (x.aN.map (n8 i)):=by
   refine NJ (n8 i) x.aN (λj aK m u o f t=>?_) (λaK o=>?_)
   .dsimp only;unfold vt;have s:=a.2.1;rw[aC,bn,f,aa,dk,f,aa,aa,aa,aJ (n:=(j:Int)+1)];unfold n8
    by_cases d:m.akw=i
    .rw[aC d,if_pos d,aa]
    .rw[aG d,if_neg d,aa,ou f]
   .dsimp only;unfold vt;rw[aG]
  show Ok ((bO (λb=>vt LC x i b.1 b.2) (x.aN,0)).bind _) _
  rw[k,aa];refine ae (.inr ⟨rfl,a,c.1,⟨r,rfl,l⟩,?_⟩)
  unfold cY;rw[e]
  rfl
def gL{d:Type}(c b:Int)(a:List d):List d:=match a[c.toNat]?,a[b.toNat]? with |some e,c7 f=>(a.set c.toNat f).set b.toNat e |_,_=>a
def Mm{c b:Int}{m:Type}{a:List Int}{h:List Int->Option m}(n:0<=c/\c<(a.length:Int))(i:0<=b/\b<(a.length:Int)):swp c b a h=h (gL c b a):=by
 have f:a[c.toNat]?=c7 (a[c.toNat]'(by omega)):=c6 (by omega);have e:a[b.toNat]?=c7 (a[b.toNat]'(by omega)):=c6 (by omega);unfold swp gL;generalize a[c.toNat]'(by omega)=l at f;generalize a[b.toNat]'(by omega)=d at e;have k:aj a c=c7 l:=by unfold aj;rw[if_pos n.1];exact f
 have o:aj a b=c7 d:=by unfold aj;rw[if_pos i.1];exact e
 have j:b.toNat<(a.set c.toNat d).length:=by rw[dT];omega
 have g:(a.set c.toNat d)[b.toNat]?=c7 ((a.set c.toNat d)[b.toNat]):=c6 j;have p:aj (a.set c.toNat d) b=c7 ((a.set c.toNat d)[b.toNat]):=by unfold aj;rw[if_pos i.1];exact g
 rw[o,aa,e,aa,k,aa,f,aa,aa,aa,p,aa,g,aa]
def ZX{x:aB}(i a:Int)(H:∀r,r∈x.aQ->Fit r.ai)(D:x.bp.length<=3):Ok (oX LC x i a) λq=>(q.2≠0/\q.1=x)\/
 (q.2=0/\fw x/\(0<=i/\i<(x.aN.length:Int))/\(0<=a/\a<(x.aN.length:Int))/\i≠a/\(∃j b,x.aN[i.toNat]?=c7 j/\x.aN[a.toNat]?=c7 b/\j.abG=b.abG)/\q.1={x with aw:=gL i a x.aw,bp:=x.bp.map (gL i a)}):=by
 unfold oX;refine aD (LZ [i,a] H (by simp)) λO y=>?_
 refine aV (λm=>ae (.inl ⟨m,rfl⟩)) (λm=>?_)
 obtain⟨n,C⟩:=y (ej.1 m);have t:=C i (by simp);have v:=C a (by simp);refine aV (λm=>ae (.inl ⟨by simp,rfl⟩)) (λI=>?_)
 have z:x.aN[i.toNat]?=c7 (x.aN[i.toNat]'(by omega)):=c6 (by omega);have w:x.aN[a.toNat]?=c7 (x.aN[a.toNat]'(by omega)):=c6 (by omega);generalize x.aN[i.toNat]'(by omega)=j at z;generalize x.aN[a.toNat]'(by omega)=b at w;have P:aj x.aN i=c7 j:=by unfold aj;rw[if_pos t.1];exact z
 have M:aj x.aN a=c7 b:=by unfold aj;rw[if_pos v.1];exact w
 rw[P,aa,M,aa];refine aV (λm=>ae (.inl ⟨by simp,rfl⟩)) (λL=>?_)
 have J:=ej.1 L;have F:=n.2.2.1;have E:∀c,c∈x.bp->c.length=x.aN.length:=λc p=>by
  obtain⟨k,N,rfl⟩:=e5.1 p;obtain⟨_,_,_,O,_,_,_,s,_,_,_,y,_⟩:=n.2.2.2.2.2.2.2.2.1 k (by have:=n.2.2.2.2.2.2.2.1;omega);rw[c6 N] at s;injection s with s
  rw[s];exact y
 have l:=n.sm;have g:∀A:aB,A={x with aw:=gL i a x.aw,bp:=x.bp.map (gL i a)}->Ok (c7 (A,(0:Int))) λq=>(q.2≠0/\q.1=x)\/(q.2=0/\fw x/\(0<=i/\i<(x.aN.length:Int))/\(0<=a/\a<(x.aN.length:Int))/\i≠a/\(∃j b,x.aN[i.toNat]?=c7 j/\x.aN[a.toNat]?=c7 b/\j.abG=b.abG)/\q.1={x with aw:=gL i a x.aw,bp:=x.bp.map (gL i a)}):=
  λA K=>ae (.inr ⟨rfl,n,t,v,I,⟨j,b,z,w,J⟩,K⟩)
 have e:∀{B:Type} {k:List Int->Option B} (c:List Int),c∈x.bp->swp i a c k=k (gL i a c):=λc p=>Mm (by rw[E c p];exact t) (by rw[E c p];exact v)
 have u:∀{B:Type} {k:List Int->Option B},swp i a x.aw k=k (gL i a x.aw):=Mm (by rw[F];exact t) (by rw[F];exact v);have f:=l.mr
 match d:x.bp with
 |[]=>
  rw[d] at g;dsimp only;unfold we;rw[d];dsimp only;rw[oc l,aa];dsimp only;rw[u];exact g _ rfl
 |[h]=>
  rw[d] at g e f;dsimp only;unfold uR;rw[d];dsimp only;rw[oc l,bV (f h (by simp)),aa,aa];dsimp only;rw[u,e h (by simp)];exact g _ rfl
 |[h,o]=>
  rw[d] at g e f;dsimp only;unfold pO;rw[d];dsimp only;rw[oc l,bV (f h (by simp)),aa,bV (f o (by simp)),aa,aa];dsimp only;rw[u,e h (by simp),e o (by simp)];exact g _ rfl
 |[h,o,G]=>
  rw[d] at g e f;dsimp only;unfold nM;rw[d];dsimp only;rw[oc l,bV (f h (by simp)),aa,bV (f o (by simp)),aa,bV (f G (by simp)),aa,aa];dsimp only;rw[u,e h (by simp),e o (by simp),e G (by simp)];exact g _ rfl
 |_::_::_::_::_=>rw[d] at D;simp at D
def Bb{l:List Int}{x:Int}(c:Fit l):to LC l x=c7 (gg (λa=>c5 (x=a)) l):=by
 unfold to;exact fF (l:=l) (P:=λa=>c7 (c5 (x=a))) (p:=λa=>c5 (x=a)) (f:=λb=>Nf LC l x b) c (λ_ _=>rfl) (λb=>rfl)
def contains_eq{c:List Int}{b:Int}(e:Fit c):im LC c b=c7 (c5 (b∈c)):=by
 unfold im;rw[Bb e,aa,gm]
 congr 1
 rw[m5,o8,decide_eq_true_iff]
 constructor
 .rintro⟨f,d,a⟩;rw[of_decide_eq_true a];exact d
 .exact λa=>⟨b,a,decide_eq_true rfl⟩
def xj(e:ak)(a:List aS)(b c:List Int)(d:Int):aB:=⟨e,d,b.map λp=>⟨p,-1,0⟩,c,a,a.map λ_=>-1,a.map λ_=>-1,a.map λ_=>ec b.length 0⟩
def start_eq{d:ak}{b:List aS}{a e:List Int}{g:Int}(m:uG d b)(I:e.length=a.length)(H:1<=a.length/\a.length<=12)(A:∀p,p∈a->0<=p/\p<(d.ai.length:Int))(C:lz e)(y:0<=g/\g<=2147483648):
 Ef LC d b a e g=c7 (xj d b a e g,0):=by
 have o:=m.1;have q:=m.2.1;have t:∀r,r∈b->Sm r.ai:=λr s=>by
  have:=(m.2.2 r s).2.1.len (by omega);have:=o.1;exact cX (n:=64) (by omega) (by decide)
 unfold Ef;rw[Pm _ _ (λr s=>h9 (t r s) (by decide)),aa,cF,aa,lA,ew rfl,fh rfl,aa,aG (by
  rintro(j |j |j)
  .exact j m
  .omega
  .omega)]
 have F:Cg LC a d=c7 (a.any λp=>!c5 (0<=p/\p<=(d.ai.length:Int) -1)):=by
  unfold Cg KC;have:=fF (l:=a) (P:=λv=>Ci LC v d) (p:=λp=>!c5 (0<=p/\p<=(d.ai.length:Int) -1)) (f:=λh=>KM LC a d h) (by omega) (λv J=>by
   unfold Ci;have:=o.1;rw[aJ,cF,aa]) (λh=>rfl)
  rw[show(LC.loop (λh=>KM LC a d h) 0).bind _=_ from this,aa,gm]
 rw[F,aa,HA,aG (λj=>j λp E=>by have:=A p E;omega),KN (cX (n:=12) (by omega) (by decide)),aa,decide_eq_true C,cF,aa,decide_eq_true y];simp only[fe,cond_false];have G:=jm (f:=λh=>tX LC a (L6 h) (T0 h)) a (λc i=>u8 (aB.mk d g (c.map λp=>⟨p,-1,0⟩) e b [] [] []) i) (λc=>u3 (aB.mk d g (c.map λp=>⟨p,-1,0⟩) e b [] [] [])) (λc r D j=>by
  show tX LC a (aB.mk d g (c.map λp=>⟨p,-1,0⟩) e b [] [] []) (c.length:Int)=_
  unfold tX;have k:=iy j;rw[aC k,jg j,aa,dm (by decide) (by rw[eE];omega),aa,aJ,hK]
  rfl) (by
  show tX LC a (aB.mk d g (a.map λp=>⟨p,-1,0⟩) e b [] [] []) (a.length:Int)=_
  unfold tX;rw[aG])
 refine(dL G).trans ?_
 have w:=jm (f:=λh=>sH LC b a (CU h) (Eg h)) b (λc i=>u1 (aB.mk d g (a.map λp=>⟨p,-1,0⟩) e b (c.map λ_=>-1) (c.map λ_=>-1) (c.map λ_=>ec a.length 0)) i) (λc=>u3 (aB.mk d g (a.map λp=>⟨p,-1,0⟩) e b (c.map λ_=>-1) (c.map λ_=>-1) (c.map λ_=>ec a.length 0))) (λc r D j=>by
  show sH LC b a (aB.mk d g (a.map λp=>⟨p,-1,0⟩) e b (c.map λ_=>-1) (c.map λ_=>-1) (c.map λ_=>ec a.length 0)) (c.length:Int)=_
  unfold sH;have k:=iy j;have u:c.length<=2000000:=by omega
  rw[aC k];dsimp only;rw[dm (by decide) (by rw[eE];exact u),nS (by omega) (by omega)];simp only[aa];rw[dm (by decide) (by rw[eE];exact u),aa,aJ,hK,hK]
  rfl) (by
  show sH LC b a (aB.mk d g (a.map λp=>⟨p,-1,0⟩) e b (b.map λ_=>-1) (b.map λ_=>-1) (b.map λ_=>ec a.length 0)) (b.length:Int)=_
  unfold sH;rw[aG])
 refine(congrArg (λz=>qb z _) (dL w)).trans ?_
 show((yS LC (xj d b a e g)).bind _)=_
 rw[agL (x:=xj d b a e g) ⟨cX o.1 (by decide),cX o.2.1 (by decide),cX (n:=12) (by show(a.map _).length<=12;rw[eE];omega) (by decide),cX (n:=12) (by show e.length<=12;omega) (by decide),cX q (by decide),t,cX (n:=32) (by show(b.map _).length<=32;rw[eE];exact q) (by decide),cX (n:=32) (by show(b.map _).length<=32;rw[eE];exact q) (by decide),
  cX (n:=32) (by show(b.map _).length<=32;rw[eE];exact q) (by decide),λl k=>by
   have B:l∈b.map λ_=>ec a.length (0:Int):=k
   obtain⟨r,_,rfl⟩:=j8.1 B;exact cX (n:=12) (by rw[e6];omega) (by decide)⟩]
 rfl
structure Seen (x:aB) (rd:aS) (row row':List Int) (yp:List Int):Prop where
 len:row'.length=row.length
 tl:yp.length<=x.aN.length
 Hg:∀(i:Nat) (w:bC) (t:Int),x.aN[i]?=c7 w->x.aw[i]?=c7 t->∃v v',row[i]?=c7 v/\row'[i]?=c7 v'/\((v'=0/\(w.abG∈rd.ai->t∈yp))\/(v'=v+1/\v'<=rd.dY))
 tag:∀t,t∈yp->∃(i:Nat) (w:bC),x.aN[i]?=c7 w/\x.aw[i]?=c7 t/\w.abG∈rd.ai
structure Oq (x:aB) (rd:aS) (n:Nat) (row row':List Int) (yp:List Int):Prop where
 len:row'.length=row.length
 tl:yp.length<=n
 bG:∀i,n<=i->row'[i]?=row[i]?
 Hg:∀(i:Nat) (w:bC) (t:Int),i<n->x.aN[i]?=c7 w->x.aw[i]?=c7 t->∃v v',row[i]?=c7 v/\row'[i]?=c7 v'/\((v'=0/\(w.abG∈rd.ai->t∈yp))\/(v'=v+1/\v'<=rd.dY))
 tag:∀t,t∈yp->∃(i:Nat) (w:bC),x.aN[i]?=c7 w/\x.aw[i]?=c7 t/\w.abG∈rd.ai
abbrev LkS:Type:=List Int×Int×Int×Int×List Int×Int
def ZP{c:aB}(F:fw c){h:aS}(Q:Fit h.ai)(B:Int){row:List Int}(Z:row.length=c.aN.length)(V:∀v,v∈row->0<=v/\v<=10)(y b C:Int):
 Ok (bO (λf:LkS=>EV LC c B h f.1 f.2.1 f.2.2.1 f.2.2.2.1 f.2.2.2.2.1 f.2.2.2.2.2) (row,y,b,C,([]:List Int),0)) λk=>match k with
  | .inl k=>k=(c.ao.ai,c.ao.af,c.aa0,c.aN,c.aw,c.aQ,c.cn,c.cf,c.bp,0,0,0,([]:List Int),43)
  | .inr k=>k.2.1=y/\k.2.2.1=b/\k.2.2.2.1=C/\Seen c h row k.1 k.2.2.2.2:=by
 have ab:=F.2.1;have ac:=F.2.2.1;refine di c.aN.length (λi f=>∃g j,f=(g,y,b,C,j,(i:Int))/\Oq c h i row g j) _ (λi f T x=>?_) (λf x=>?_) _ ⟨row,[],rfl,⟨rfl,by simp,λ_ _=>rfl,λi l o a=>by omega,λo a=>by cases a⟩⟩
 .obtain⟨g,j,rfl,e⟩:=x;have m:c.aN[i]?=c7 c.aN[i]:=c6 T;have q:c.aw[i]?=c7 (c.aw[i]'(by omega)):=c6 (by omega);have A:row[i]?=c7 (row[i]'(by omega)):=c6 (by omega);generalize c.aN[i]=l at m;generalize c.aw[i]'(by omega)=o at q;have J:=V _ (dd (show i<row.length by omega));generalize row[i]'(by omega)=v at A J;have G:g[i]?=c7 v:=(e.bG i (h8 _)).trans A;have D:i<g.length:=by rw[e.len];omega
  dsimp only;unfold EV;rw[aC,bn,m,aa,contains_eq Q,aa,AD (by omega),aa,bn,G,aa];have next:∀(z:Int) (p:List Int),((z=0/\(l.abG∈h.ai->o∈p))\/(z=v+1/\z<=h.dY))->(∀d,d∈j->d∈p)->p.length<=j.length+1->(∀d,d∈p->d∈j\/(d=o/\l.abG∈h.ai))->Oq c h (i+1) row (g.set i z) p:=by
   intro z p O S ad K;refine⟨by rw[dT,e.len],by have:=e.tl;omega,λu X=>?_,λu U L X r s=>?_,λd W=>?_⟩
   .rw[hq (by omega)];exact e.bG u (by omega)
   .by_cases E:u=i
    .subst E;rw[m] at r;rw[q] at s;injection r with r
     injection s with s
     subst r s;exact⟨v,z,A,gv D,O⟩
    .obtain⟨M,H,R,P,t⟩:=e.Hg u U L (by omega) r s;refine⟨M,H,R,by rw[hq (λa=>E a.symm)];exact P,?_⟩
     rcases t with⟨t,N⟩ |t
     .exact .inl ⟨t,λa=>S _ (N a)⟩
     .exact .inr t
   .rcases K d W with a |⟨rfl,a⟩
    .exact e.tag d a
    .exact⟨i,l,m,q,a⟩
  have I:(bif c5 (l.abG∈h.ai) then c7 (c5 (bits .and .i64 (B.fdiv (2^ (min (i:Int).toNat IntKind.i64.bits))) 1=1)) else c7 false)=c7 (c5 (l.abG∈h.ai/\bits .and .i64 (B.fdiv (2^ (min (i:Int).toNat IntKind.i64.bits))) 1=1)):=fm rfl;rw[I,aa,dk,G,aJ (n:=(i:Int)+1)];simp only[aa];rw[aJ (n:=v+1)];refine aV (λY=>?_) (λY=>?_)
  .rw[gv D,aa];refine aV (λa=>ae rfl) (λa=>ae ⟨g.set i (v+1),j,rfl,next _ _ (.inr ⟨rfl,by omega⟩) (λ_ a=>a) (by omega) (λd a=>.inl a)⟩)
  .refine aV (λw=>?_) (λw=>ae ⟨g.set i 0,j,rfl,next _ _ (.inl ⟨rfl,λa=>absurd a w⟩) (λ_ a=>a) (by omega) (λd a=>.inl a)⟩)
   have:=e.tl;rw[bn,q,aa,dm (by decide) (by omega),aa];refine ae ⟨g.set i 0,j++[o],rfl,next _ _ (.inl ⟨rfl,λ_=>by simp⟩) (λd a=>by simp[a]) (by simp) (λd a=>?_)⟩
   rcases e4.1 a with a |a
   .exact .inl a
   .exact .inr ⟨by simpa using a,w⟩
 .obtain⟨g,j,rfl,e⟩:=x;dsimp only;unfold EV;rw[aG];exact ae ⟨rfl,rfl,rfl,e.len,e.tl,λi l o m q=>e.Hg i l o (dt.1 m).1 m q,e.tag⟩
structure cf (x:aB) (k:Nat) (off:Int) (rd:aS) (x':aB) (r:aT):Prop where
 ok:fw x
 eZ:x.aQ[k]?=c7 rd
 QX: -rd.cR<=off/\off<=rd.cR
 aqK:0<=x.aa0+off/\x.aa0+off<=2147483648
 ex:∃row row' yp a l,x.bp[k]?=c7 row/\x.cn[k]?=c7 a/\x.cf[k]?=c7 l/\Seen x rd row row' yp/\r.aj6=(a+(if 0<=l/\rd.dX<x.aa0 -l then 2 else 1)).tmod 65536/\r.agX=k/\r.aa0=x.aa0+off/\r.aw=dQ yp/\
  x'={x with cn:=x.cn.set k r.aj6,cf:=x.cf.set k x.aa0,bp:=x.bp.set k row'}
def ua{a:aB}(d:fw a){g:Nat}{u f:Int}{c:aS}(h:a.aQ[g]?=c7 c)(B: -c.cR<=f/\f<=c.cR)(A:0<=a.aa0+f/\a.aa0+f<=2147483648){row:List Int}(s:a.bp[g]?=c7 row)(p:List Int->List (List Int))(G:∀r,p r=a.bp.set g r):
 Ok (qw LC a (g:Int) u f c a.aw a.cn a.cf row p (a.ao.ai,a.ao.af,a.aa0,a.aN,a.aQ)) λq=>(q.2.2≠0/\q.1=a)\/(q.2.2=0/\cf a g f c q.1 q.2.1):=by
 have I:=(dt.1 h).1;obtain⟨_,t,b,O,k,m,l,i,N,L,_,F,z⟩:=d.2.2.2.2.2.2.2.2.1 g I;rw[h] at k;injection k with k
 subst k;rw[s] at i;injection i with i
 subst i;have K:=d.2.2.2.2.1;have D:=d.1.2.2 c (fC h);unfold qw;rw[bn,l,aa,aa,aJ (n:=a.aa0 -b)];have H:(bif c5 (0<=b) then c7 (c5 (c.dX<a.aa0 -b)) else c7 false)=c7 (c5 (0<=b/\c.dX<a.aa0 -b)):=fm rfl;rw[H,aa];have y:(bif c5 (0<=b/\c.dX<a.aa0 -b) then c7 (2:Int) else c7 1)=c7 (if 0<=b/\c.dX<a.aa0 -b then 2 else 1):=by
  by_cases j:0<=b/\c.dX<a.aa0 -b
  .rw[aC j,if_pos j]
  .rw[aG j,if_neg j]
 rw[y,aa,bn,m,aa];have P:(1:Int)<=(if 0<=b/\c.dX<a.aa0 -b then 2 else 1)/\(if 0<=b/\c.dX<a.aa0 -b then(2:Int) else 1)<=2:=by split <;> omega
 rw[aJ (n:=t+_),D7 (by omega),aa,aa,dk,m,aa,aa,l,aa,aJ (n:=a.aa0+f)];refine aD (ZP d (by have:=d.sm.rp c (fC h);exact h9 this (by decide)) u F (λv E=>by have:=z v E;have:=D.2.2.2.1;omega) _ _ _) λe o=>?_
 cases e with
 |inl e=>
  dsimp only at o;subst o;exact ae (.inl ⟨by simp,rfl⟩)
 |inr e=>
  obtain⟨J,x,C,w⟩:=o;dsimp only[ei];have M:=d.2.1;have:=w.tl;rw[show rC e.2.2.2.2=rl LC e.2.2.2.2 from rfl,zF (cX (n:=12) (by omega) (by decide)),aa];refine ae (.inr ⟨rfl,d,h,B,A,row,e.1,e.2.2.2.2,t,b,s,m,l,w,x,J,C,rfl,?_⟩)
  rw[G,x]
def look_ok{x:aB}(f B h:Int)(D:∀r,r∈x.aQ->Fit r.ai)(y:x.bp.length<=3)(M:0<=f)(N:f<max 1 (x.aQ.length:Int))(s:x.bp.length=x.aQ.length):
 Ok (jO LC x f B h) λq=>(q.2.2≠0/\q.1=x)\/(q.2.2=0/\∃(n:Nat) (d:aS),f=(n:Int)/\cf x n h d q.1 q.2.1):=by
 have head:∀(u:aS->Option (aB×aT×Int)),(∀(n:Nat) (d:aS),f=(n:Int)->fw x->x.aQ[n]?=c7 d->(-d.cR<=h/\h<=d.cR)->(0<=x.aa0+h/\x.aa0+h<=2147483648)->Ok (u d) λq=>(q.2.2≠0/\q.1=x)\/(q.2.2=0/\cf x n h d q.1 q.2.1))->
  Ok (po LC x f B h u) λq=>(q.2.2≠0/\q.1=x)\/(q.2.2=0/\∃(n:Nat) (d:aS),f=(n:Int)/\cf x n h d q.1 q.2.1):=by
  intro u I;unfold po;rw[xf x D,aa,de];refine aV (λc=>?_) (λc=>ae (.inl ⟨by simp,rfl⟩))
  rw[aJ,cF,aa,de];refine aV (λH=>?_) (λc=>ae (.inl ⟨by simp,rfl⟩))
  have w:f.toNat<x.aQ.length:=by omega
  have g:x.aQ[f.toNat]?=c7 x.aQ[f.toNat]:=c6 w;have v:aj x.aQ f=c7 x.aQ[f.toNat]:=qC H.1 (by omega);have A:=c.1.2.2 _ (dd w);generalize x.aQ[f.toNat]=d at g v A;have K:=c.2.2.2.2.1;have J:=A.2.2.2.2;rw[v,aa,aJ (n:=0 -d.cR),cF,aa]
  by_cases z:0 -d.cR<=h/\h<=d.cR
  rotate_left
  .rw[decide_eq_false z];exact ae (.inl ⟨by simp,rfl⟩)
  rw[decide_eq_true z,aJ (n:=x.aa0+h),cF];simp only[aa,fe,cond_false,de];refine aV (λE=>?_) (λ_=>ae (.inl ⟨by simp,rfl⟩))
  refine WI (I f.toNat d (by omega) c g (by omega) E) λq p=>?_
  rcases p with p |⟨h0,p⟩
  .exact .inl p
  .exact .inr ⟨h0,f.toNat,d,by omega,p⟩
 have F:∀{G:Prop},x.aQ.length=0->∀(n:Nat) (d:aS),x.aQ[n]?=c7 d->G:=λL n d g=>by
  have:=(dt.1 g).1;omega
 unfold jO
 match a:x.bp with
 |[]=>
  dsimp only;have h0:x.aQ.length=0:=by rw[<-s,a];rfl
  rw[aC];exact head _ λn d _ _ g=>F h0 n d g
 |[i]=>
  dsimp only;have h0:x.aQ.length=1:=by rw[<-s,a];rfl
  rw[aC (show f=0 by omega)];refine head _ λn d l c g j b=>?_
  have k:n=0:=by omega
  subst k l;have e:=c.sm.mr;rw[a] at e;unfold uR;rw[a];dsimp only;rw[oc c.sm,bV (e i (by simp)),aa,aa];exact ua c g j b (row:=i) (by rw[a];rfl) (λr=>[r]) (λr=>by rw[a];rfl)
 |[i,m]=>
  dsimp only;have h0:x.aQ.length=2:=by rw[<-s,a];rfl
  by_cases o:f=0
  .rw[aC o];refine head _ λn d l c g j b=>?_
   have k:n=0:=by omega
   subst k l;have e:=c.sm.mr;rw[a] at e;unfold pO;rw[a];dsimp only;rw[oc c.sm,bV (e i (by simp)),aa,bV (e m (by simp)),aa,aa];exact ua c g j b (row:=i) (by rw[a];rfl) _ (λr=>by rw[a];rfl)
  .rw[aG o,aC (show f=1 by omega)];refine head _ λn d l c g j b=>?_
   have k:n=1:=by omega
   subst k l;have e:=c.sm.mr;rw[a] at e;unfold pO;rw[a];dsimp only;rw[oc c.sm,bV (e i (by simp)),aa,bV (e m (by simp)),aa,aa];exact ua c g j b (row:=m) (by rw[a];rfl) _ (λr=>by rw[a];rfl)
 |[i,m,t]=>
  dsimp only;have h0:x.aQ.length=3:=by rw[<-s,a];rfl
  by_cases o:f=0
  .rw[aC o];refine head _ λn d l c g j b=>?_
   have k:n=0:=by omega
   subst k l;have e:=c.sm.mr;rw[a] at e;unfold nM;rw[a];dsimp only;rw[oc c.sm,bV (e i (by simp)),aa,bV (e m (by simp)),aa,bV (e t (by simp)),aa,aa];exact ua c g j b (row:=i) (by rw[a];rfl) _ (λr=>by rw[a];rfl)
  .rw[aG o]
   by_cases C:f=1
   .rw[aC C];refine head _ λn d l c g j b=>?_
    have k:n=1:=by omega
    subst k l;have e:=c.sm.mr;rw[a] at e;unfold nM;rw[a];dsimp only;rw[oc c.sm,bV (e i (by simp)),aa,bV (e m (by simp)),aa,bV (e t (by simp)),aa,aa];exact ua c g j b (row:=m) (by rw[a];rfl) _ (λr=>by rw[a];rfl)
   .rw[aG C,aC (show f=2 by omega)];refine head _ λn d l c g j b=>?_
    have k:n=2:=by omega
    subst k l;have e:=c.sm.mr;rw[a] at e;unfold nM;rw[a];dsimp only;rw[oc c.sm,bV (e i (by simp)),aa,bV (e m (by simp)),aa,bV (e t (by simp)),aa,aa];exact ua c g j b (row:=t) (by rw[a];rfl) _ (λr=>by rw[a];rfl)
 |_::_::_::_::_=>rw[a] at y;simp at y
end Go.X.T
namespace Go.X.T
open Go Go.Aml Go.Top
def fn(a:List Int)(p:Int):Int:=a.getD p.toNat 0
def fD(a:Int):Prop:=(0<=a/\a<=2147483648)\/a=1099511627776
instance (a:Int):Decidable (fD a):=by unfold fD;infer_instance
def Q4{b:List Int}{p a:Int}(c:b[p.toNat]?=c7 a):fn b p=a:=pu c
def iD{l:List Int}{p:Int}(h0:0<=p)(a:p<(l.length:Int)):l[p.toNat]?=c7 (fn l p):=by
 rw[c6 (by omega),fn,pu (c6 (by omega))]
def gH{l:List Int}{p:Int}(h0:0<=p)(a:p<(l.length:Int)):aj l p=c7 (fn l p):=by
 unfold aj;rw[if_pos h0];exact iD h0 a
def oR{l:List Int}{p:Int}(h0:0<=p)(a:p<(l.length:Int)):fn l p∈l:=fC (iD h0 a)
def wy{l:List Int}{p q x:Int}(h0:0<=p)(b:p<(l.length:Int))(c:0<=q):fn (l.set p.toNat x) q=if q=p then x else fn l q:=by
 unfold fn;rw[ee,hI]
 by_cases a:q=p
 .subst a;rw[if_pos rfl,if_pos rfl,if_pos (by omega)];rfl
 .rw[if_neg a,if_neg (by omega),ee]
def rL(m:ak):vG:=λp q a=>∃(i:Nat) (r:aZ) (b:Bool),m.af[i]?=c7 r/\wT m (i:Int) b 6 9 12=a/\0<=a/\p=(if b then r.To else r.an)/\q=(if b then r.an else r.To)
def x8(S:Int->Bool)(b:List Int×Bool)(q a t:Int):List Int×Bool:=if max a t<=2147483648/\max a t<fn b.1 q/\S q=true then(b.1.set q.toNat (max a t),true) else b
def gn(m:ak)(S:Int->Bool)(t:Int)(i:Nat)(r:aZ)(b:Bool)(a:List Int×Bool):List Int×Bool:=
 if 0<=wT m (i:Int) b 6 9 12/\fn a.1 (if b then r.To else r.an)<1099511627776 then x8 S a (if b then r.an else r.To) (fn a.1 (if b then r.To else r.an)+wT m (i:Int) b 6 9 12) t else a
def e9(m:ak)(S:Int->Bool)(t:Int):Nat->Nat->List Int×Bool->List Int×Bool
 |0,_,a=>a
 |b+1,i,a=>e9 m S t b (i+1) (match m.af[i]? with |some r=>gn m S t i r true (gn m S t i r false a) |none=>a)
structure LI (m:ak) (S:Int->Bool) (t:Int) (g aK:List Int):Prop where
 len:aK.length=g.length
 le:∀p,0<=p->p<(g.length:Int)->fn aK p<=fn g p
 sh:∀x,x∈aK->fD x
 low:∀h:Int->Int,pG (rL m) t (λq=>S q=true) h->(∀p,0<=p->p<(g.length:Int)->h p<=fn g p)->∀p,0<=p->p<(g.length:Int)->h p<=fn aK p
def jJ:List Int->Int
 |[]=>0
 |a::b=>a+jJ b
def Gn:∀{l:List Int},(∀a,a∈l->fD a)->0<=jJ l
 |[],_=>ey _
 |a::l,b=>by
  have c:=b a (by simp);have f:=Gn (l:=l) λe d=>b e (by simp[d])
  unfold jJ;unfold fD at c;omega
def Mk:∀{b:List Int} {i:Nat} {d a:Int},b[i]?=c7 a->jJ (b.set i d)=jJ b -a+d
 |[],i,d,a,c=>by simp at c
 |e::b,0,d,a,c=>by
  have:e=a:=by simpa using c
  subst this;rw[hX];unfold jJ;omega
 |e::b,i+1,d,a,c=>by
  have f:b[i]?=c7 a:=by simpa using c
  rw[l2];unfold jJ;rw[Mk f];omega
section
variable {m:ak}{S:Int->Bool}{t:Int}{g:List Int}
def Cn(a:cP m){i:Nat}{r:aZ}(c:m.af[i]?=c7 r)(b:Bool):(0<=(if b then r.To else r.an)/\(if b then r.To else r.an)<(m.ai.length:Int))/\(0<=(if b then r.an else r.To)/\(if b then r.an else r.To)<(m.ai.length:Int)):=by
 have d:=(a.2.2.2 r (fC c)).1;cases b
 .simp only[hY,if_false];omega
 .simp only[if_true];omega
def om(N:cP m)(P:0<=t)(O:g.length=m.ai.length){i:Nat}{r:aZ}(z:m.af[i]?=c7 r)(b:Bool){a:List Int×Bool}(c:LI m S t g a.1):
 LI m S t g (gn m S t i r b a).1/\((gn m S t i r b a=a/\pG (λp q j=>p=(if b then r.To else r.an)/\q=(if b then r.an else r.To)/\j=wT m (i:Int) b 6 9 12/\0<=j) t (λq=>S q=true) (fn a.1))\/((gn m S t i r b a).2=true/\jJ (gn m S t i r b a).1<jJ a.1)):=by
 obtain⟨o,n⟩:=Cn N z b;have R:=rF m (i:Int) b (u:=6) (d:=9) (l:=12) (by decide);unfold gn x8;generalize K:(if b then r.To else r.an)=e at o⊢;generalize G:(if b then r.an else r.To)=y at n⊢;have H:=c.len
 by_cases k:0<=wT m (i:Int) b 6 9 12/\fn a.1 e<1099511627776
 .rw[if_pos k]
  by_cases h:max (fn a.1 e+wT m (i:Int) b 6 9 12) t<=2147483648/\max (fn a.1 e+wT m (i:Int) b 6 9 12) t<fn a.1 y/\S y=true
  .rw[if_pos h];have B:=λq L=>wy (l:=a.1) (p:=y) (q:=q) (x:=max (fn a.1 e+wT m (i:Int) b 6 9 12) t) n.1 (by omega) L
   have Q:=c.sh _ (oR (l:=a.1) o.1 (by omega));refine⟨⟨by rw[dT];exact H,λp f w=>?_,λx v=>?_,λM E I p f w=>?_⟩,.inr ⟨rfl,?_⟩⟩
   .rw[B p f];have:=c.le p f w
    split
    .rename_i s;subst s;omega
    .exact this
   .rcases ev v with v |rfl
    .exact c.sh x v
    .left;omega
   .rw[B p f];have C:=c.low M E I
    split
    .rename_i s;subst s;have T:=C e o.1 (by omega);have:=E e p _ ⟨i,r,b,z,rfl,k.1,K.symm,G.symm⟩ h.2.2 (by unfold T5;omega) (by unfold SM;omega);omega
    .exact C p f w
   .rw[Mk (iD n.1 (by omega))];omega
  .rw[if_neg h];refine⟨c,.inl ⟨rfl,?_⟩⟩
   rintro p q j ⟨rfl,rfl,rfl,h0⟩ F D A;refine Int.not_lt.1 λJ=>h ⟨A,J,F⟩
 .rw[if_neg k];refine⟨c,.inl ⟨rfl,?_⟩⟩
  rintro p q j ⟨rfl,rfl,rfl,h0⟩ F D A;exact absurd ⟨h0,D⟩ k
def S5{i:Nat}{r:aZ}{b:Bool}{c:List Int×Bool}(a:c.2=true):(gn m S t i r b c).2=true:=by
 unfold gn x8;generalize (if b then r.To else r.an)=d;generalize (if b then r.an else r.To)=e
 split
 .split
  .rfl
  .exact a
 .exact a
def De:∀{c i:Nat} {b:List Int×Bool},b.2=true->(e9 m S t c i b).2=true
 |0,_,_,a=>a
 |c+1,i,b,a=>by
  unfold e9;refine De ?_
  split
  .exact S5 (S5 a)
  .exact a
def PJ(x:cP m)(w:0<=t)(u:g.length=m.ai.length):∀(c i:Nat) (a:List Int×Bool),LI m S t g a.1->i+c=m.af.length->
 LI m S t g (e9 m S t c i a).1/\jJ (e9 m S t c i a).1<=jJ a.1/\((e9 m S t c i a).2=true/\jJ (e9 m S t c i a).1<jJ a.1\/e9 m S t c i a=a/\∀e,i<=e->∀r b,m.af[e]?=c7 r->pG (λp q y=>p=(if b then r.To else r.an)/\q=(if b then r.an else r.To)/\y=wT m (e:Int) b 6 9 12/\0<=y) t (λq=>S q=true) (fn a.1))
 |0,i,a,l,F=>⟨l,ey _,.inr ⟨rfl,λe I r b h=>by have:=(dt.1 h).1;omega⟩⟩
 |c+1,i,a,l,F=>by
  have z:i<m.af.length:=by omega
  unfold e9;rw[c6 z];have h:=c6 z;dsimp only;generalize m.af[i]=r at h;obtain⟨B,d⟩:=om x w u h false l;obtain⟨H,n⟩:=om x w u h true B;obtain⟨k,s,f⟩:=PJ x w u c (i+1) _ H (by omega);have G:∀o,o=gn m S t i r true (gn m S t i r false a)->o.2=true->(e9 m S t c (i+1) o).2=true:=λo _ l=>De l
  rcases n with⟨n,v⟩ |⟨n,v⟩
  .rw[n] at k s f G⊢;rcases d with⟨d,A⟩ |⟨d,A⟩
   .rw[d] at k s f v⊢;refine⟨k,s,?_⟩
    rcases f with f |⟨f,E⟩
    .exact .inl f
    .refine .inr ⟨f,λe I C b j=>?_⟩
     by_cases D:e=i
     .subst D;rw[h] at j;injection j with j
      subst j;cases b
      .exact A
      .exact v
     .exact E e (by omega) C b j
   .exact⟨k,by omega,.inl ⟨De d,by omega⟩⟩
  .have:jJ (gn m S t i r false a).1<=jJ a.1:=by
    rcases d with⟨d,_⟩ |⟨_,d⟩
    .rw[d];exact ey _
    .omega
   exact⟨k,by omega,.inl ⟨De n,by omega⟩⟩
end
structure eF (m:ak) (S:Int->Bool) (t:Int) (g out:List Int):Prop extends LI m S t g out where
 cl:pG (rL m) t (λq=>S q=true) (fn out)
def afo{aK:List Int}{d:Bool}{p q b t:Int}(h0:0<=q)(c:q<(aK.length:Int)):CB LC aK d p q b t=c7 (x8 (λ_=>true) (aK,d) q b t):=by
 unfold CB KJ;rw[gH h0 c,iD h0 c];simp only[aa];have f:(bif c5 (max b t<=2147483648) then bif c5 (max b t<fn aK q) then c7 true else c7 false else c7 false)=c7 (c5 (max b t<=2147483648/\max b t<fn aK q/\(λ_=>true) q=true)):=by
  refine fm ?_
  by_cases a:max b t<fn aK q
  .rw[aC a,decide_eq_true ⟨a,rfl⟩]
  .rw[aG a,decide_eq_false (λe=>a e.1)]
 rw[f,aa]
 by_cases a:max b t<=2147483648/\max b t<fn aK q/\(λ_:Int=>true) q=true
 .rw[aC a];exact(congrArg c7 (if_pos a)).symm
 .rw[aG a];exact(congrArg c7 (if_neg a)).symm
def afB{aK:List Int}{d:Bool}{p q a t:Int}{S:List Int}(e:Fit S)(h0:0<=q)(c:q<(aK.length:Int)):DD LC aK d p q a t S=c7 (x8 (λh=>c5 (h∈S)) (aK,d) q a t):=by
 unfold DD Gs;rw[gH h0 c,iD h0 c,contains_eq e];simp only[aa];have f:(bif c5 (max a t<=2147483648) then bif c5 (max a t<fn aK q) then c7 (c5 (q∈S)) else c7 false else c7 false)=c7 (c5 (max a t<=2147483648/\max a t<fn aK q/\c5 (q∈S)=true)):=by
  refine fm ?_
  rw[fm rfl]
  congr 1
  apply decide_eq_decide.2
  rw[decide_eq_true_iff]
 rw[f,aa]
 by_cases b:max a t<=2147483648/\max a t<fn aK q/\c5 (q∈S)=true
 .rw[aC b];exact(congrArg c7 (if_pos b)).symm
 .rw[aG b];exact(congrArg c7 (if_neg b)).symm
def akO{b:Type}{f:b->Int->Option ((b×Int)⊕b)}(g:Bool->b->b)(a:b)(h0:f a 0=c7 (.inl (g false a,1)))(c:f (g false a) 1=c7 (.inl (g true (g false a),2)))(d:∀a,f a 2=c7 (.inr a)):bO (λa:b×Int=>f a.1 a.2) (a,0)=c7 (g true (g false a)):=by
 rw[iO (f:=λa:b×Int=>f a.1 a.2) h0,iO (f:=λa:b×Int=>f a.1 a.2) c];exact fZ (d _)
section
variable {m:ak}{t:Int}
def Nb{b a:Int}(c:fD b)(d:a= -1\/(1<=a/\a<=1000099)):c3 c4 (b+a)=b+a:=by
 unfold fD at c;exact aJ
def P9(j:cP m){aK:List Int}{e:Bool}(x:aK.length=m.ai.length)(v:∀f,f∈aK->fD f){i:Nat}{r:aZ}(p:m.af[i]?=c7 r)(b:Bool)(a:Int)(q:aj [false,true] a=c7 b)(s:0<=a/\a<2):
 th LC r m (i:Int) t aK e a=c7 (.inl ((gn m (λ_=>true) t i r b (aK,e)).1,(gn m (λ_=>true) t i r b (aK,e)).2,a+1)):=by
 obtain⟨c,h⟩:=Cn j p b;have w:=rF m (i:Int) b (u:=6) (d:=9) (l:=12) (by decide);unfold th;rw[aC s.2,q,aa];have o:(bif b then c7 (r.To,r.an) else c7 (r.an,r.To))=c7 ((if b then r.To else r.an),(if b then r.an else r.To)):=by cases b <;> rfl
 rw[o,aa,Cv,aa];dsimp only;unfold gn;generalize (if b then r.To else r.an)=z at c⊢;generalize (if b then r.an else r.To)=y at h⊢;have k:=v _ (oR (l:=aK) c.1 (by omega));rw[gH (l:=aK) c.1 (by omega),iD (l:=aK) c.1 (by omega)];simp only[aa];rw[fm rfl,aa,wL,Nb k w,afo h.1 (by omega),aa,aJ (n:=a+1)]
 split <;> rfl
def MK(j:cP m){aK:List Int}{f:Bool}{S:List Int}(k:Fit S)(y:aK.length=m.ai.length)(w:∀c,c∈aK->fD c){i:Nat}{r:aZ}(q:m.af[i]?=c7 r)(b:Bool)(a:Int)(s:aj [false,true] a=c7 b)(v:0<=a/\a<2):
 tY LC r m (i:Int) t S aK f a=c7 (.inl ((gn m (λc=>c5 (c∈S)) t i r b (aK,f)).1,(gn m (λc=>c5 (c∈S)) t i r b (aK,f)).2,a+1)):=by
 obtain⟨e,h⟩:=Cn j q b;have x:=rF m (i:Int) b (u:=6) (d:=9) (l:=12) (by decide);unfold tY;rw[aC v.2,s,aa];have p:(bif b then c7 (r.To,r.an) else c7 (r.an,r.To))=c7 ((if b then r.To else r.an),(if b then r.an else r.To)):=by cases b <;> rfl
 rw[p,aa,Cv,aa];dsimp only;unfold gn;generalize (if b then r.To else r.an)=A at e⊢;generalize (if b then r.an else r.To)=z at h⊢;have o:=w _ (oR (l:=aK) e.1 (by omega));rw[gH (l:=aK) e.1 (by omega),iD (l:=aK) e.1 (by omega)];simp only[aa];rw[fm rfl,aa,wL,Nb o x,afB k h.1 (by omega),aa,aJ (n:=a+1)]
 split <;> rfl
def O4{e:Type}{f:List Int->Bool->Int->Option ((List Int×Bool×Int)⊕e)}{c d b:List Int×Bool}{r:e}(h0:f c.1 c.2 0=c7 (.inl (d.1,d.2,1)))(h:f d.1 d.2 1=c7 (.inl (b.1,b.2,2)))(i:f b.1 b.2 2=c7 (.inr r)):bO (λa:List Int×Bool×Int=>f a.1 a.2.1 a.2.2) (c.1,c.2,0)=c7 r:=by
 rw[iO (f:=λa:List Int×Bool×Int=>f a.1 a.2.1 a.2.2) h0,iO (f:=λa:List Int×Bool×Int=>f a.1 a.2.1 a.2.2) h];exact fZ i
def yj{S:Int->Bool}:∀(a i:Nat) (b:List Int×Bool),e9 m S t (a+1) i b=(match m.af[i+a]? with |some r=>gn m S t (i+a) r true (gn m S t (i+a) r false (e9 m S t a i b)) |none=>e9 m S t a i b)
 |0,i,b=>by unfold e9 e9;rfl
 |a+1,i,b=>by
  rw[e9];rw[yj a (i+1)];rw[show i+1+a=i+(a+1) by omega]
  rfl
def aeq(h:cP m)(j:0<=t){aK:List Int}(i:aK.length=m.ai.length)(x:∀n,n∈aK->fD n):yf LC aK false m t=c7 ((e9 m (λ_=>true) t m.af.length 0 (aK,false)).1,(e9 m (λ_=>true) t m.af.length 0 (aK,false)).2):=by
 unfold yf;have s:LI m (λ_=>true) t aK aK:=⟨rfl,λ_ _ _=>ey _,x,λB _ q=>q⟩;have C:=h.2.1;have w:∀a,a<=m.af.length->LI m (λ_=>true) t aK (e9 m (λ_=>true) t a 0 (aK,false)).1:=by
  intro a
  induction a with
  |zero=>intro _;exact s
  |succ a y=>
   intro o;have z:a<m.af.length:=by omega
   have e:=c6 z;rw[yj,m2,e];exact(om h j i e true (om h j i e false (y (by omega))).1).1
 have v:=nV (f:=λd:List Int×Bool×Int=>vN LC m t d.1 d.2.1 d.2.2) m.af.length (λa=>((e9 m (λ_=>true) t a 0 (aK,false)).1,(e9 m (λ_=>true) t a 0 (aK,false)).2,(a:Int))) (e9 m (λ_=>true) t m.af.length 0 (aK,false)) (λa o=>?_) (by
  dsimp only;unfold vN;rw[aG])
 .rw[show LC.loop (λd:List Int×Bool×Int=>vN LC m t d.1 d.2.1 d.2.2) (aK,false,0)=_ from v,aa]
 .dsimp only;have e:=c6 o;have l:=w a (by omega);have k:=(om h j i e false l).1;have A:=(om h j i e true k).1;unfold vN;rw[aC,bn,e,aa];have p:=O4 (f:=λu b c=>th LC m.af[a] m (a:Int) t u b c) (c:=e9 m (λ_=>true) t a 0 (aK,false)) (r:=gn m (λ_=>true) t a m.af[a] true (gn m (λ_=>true) t a m.af[a] false (e9 m (λ_=>true) t a 0 (aK,false))))
   (P9 h (l.len.trans i) l.sh e false 0 rfl (by decide)) (P9 h (k.len.trans i) k.sh e true 1 rfl (by decide)) (by unfold th;rfl)
  rw[show LC.loop (λd:List Int×Bool×Int=>th LC m.af[a] m (a:Int) t d.1 d.2.1 d.2.2) _=_ from p,aa,aJ,yj,m2,e]
  rfl
def UZ(i:cP m)(k:0<=t){S:List Int}(p:Fit S){aK:List Int}(j:aK.length=m.ai.length)(y:∀a,a∈aK->fD a):Bj LC aK false m t S=c7 ((e9 m (λa=>c5 (a∈S)) t m.af.length 0 (aK,false)).1,(e9 m (λa=>c5 (a∈S)) t m.af.length 0 (aK,false)).2):=by
 unfold Bj;have u:LI m (λa=>c5 (a∈S)) t aK aK:=⟨rfl,λ_ _ _=>ey _,y,λC _ s=>s⟩;have D:=i.2.1;have x:∀d,d<=m.af.length->LI m (λa=>c5 (a∈S)) t aK (e9 m (λa=>c5 (a∈S)) t d 0 (aK,false)).1:=by
  intro d
  induction d with
  |zero=>intro _;exact u
  |succ d z=>
   intro o;have A:d<m.af.length:=by omega
   have h:=c6 A;rw[yj,m2,h];exact(om i k j h true (om i k j h false (z (by omega))).1).1
 have w:=nV (f:=λe:List Int×Bool×Int=>xS LC m t S e.1 e.2.1 e.2.2) m.af.length (λd=>((e9 m (λa=>c5 (a∈S)) t d 0 (aK,false)).1,(e9 m (λa=>c5 (a∈S)) t d 0 (aK,false)).2,(d:Int))) (e9 m (λa=>c5 (a∈S)) t m.af.length 0 (aK,false)) (λd o=>?_) (by
  dsimp only;unfold xS;rw[aG])
 .rw[show LC.loop (λe:List Int×Bool×Int=>xS LC m t S e.1 e.2.1 e.2.2) (aK,false,0)=_ from w,aa]
 .dsimp only;have h:=c6 o;have n:=x d (by omega);have l:=(om i k j h false n).1;have B:=(om i k j h true l).1;unfold xS;rw[aC,bn,h,aa];have q:=O4 (f:=λv b c=>tY LC m.af[d] m (d:Int) t S v b c) (c:=e9 m (λa=>c5 (a∈S)) t d 0 (aK,false)) (r:=gn m (λa=>c5 (a∈S)) t d m.af[d] true (gn m (λa=>c5 (a∈S)) t d m.af[d] false (e9 m (λa=>c5 (a∈S)) t d 0 (aK,false))))
   (MK i p (n.len.trans j) n.sh h false 0 rfl (by decide)) (MK i p (l.len.trans j) l.sh h true 1 rfl (by decide)) (by unfold tY;rfl)
  rw[show LC.loop (λe:List Int×Bool×Int=>tY LC m.af[d] m (d:Int) t S e.1 e.2.1 e.2.2) _=_ from q,aa,aJ,yj,m2,h]
  rfl
def TT(E:cP m)(v:0<=t){S:Int->Bool}{g:List Int}(l:g.length=m.ai.length)(D:∀e,e∈g->fD e){f:List Int×Bool->Option ((List Int×Bool)⊕List Int)}
 (z:∀aK,aK.length=m.ai.length->(∀e,e∈aK->fD e)->f (aK,true)=c7 (.inl (e9 m S t m.af.length 0 (aK,false)))) (s:∀aK,f (aK,false)=c7 (.inr aK)):Ok (bO f (g,true)) (eF m S t g):=by
 refine oa (λa=>LI m S t g a.1/\(a.2=false->pG (rL m) t (λq=>S q=true) (fn a.1))) (λa=>2*(jJ a.1).toNat+(if a.2 then 1 else 0)) _ (λa c=>?_) _ ⟨⟨rfl,λ_ _ _=>ey _,D,λh _ B=>B⟩,λh=>by cases h⟩
 obtain⟨aK,F⟩:=a;obtain⟨c,C⟩:=c;cases F with
 |false=>exact ok_eq (s aK) ⟨c,C rfl⟩
 |true=>
  refine ok_eq (z aK (c.len.trans l) c.sh) ?_
  obtain⟨k,H,d⟩:=PJ E v l m.af.length 0 (aK,false) c (by omega);have I:=Gn c.sh;have J:=Gn k.sh;rcases d with⟨d,j⟩ |⟨d,j⟩
  .refine⟨⟨k,λh=>by rw[d] at h;cases h⟩,?_⟩
   dsimp only at j⊢;rw[d];simp only[if_true];omega
  .rw[d];refine⟨⟨c,λ_=>?_⟩,by simp⟩
   rintro p q y ⟨i,r,b,n,u,h0,A,x⟩ G w o;exact j i (oS _) r b n p q y ⟨A,x,u.symm,h0⟩ G w o
def KU(a:cP m)(c:0<=t){g:List Int}(e:g.length=m.ai.length)(k:∀d,d∈g->fD d):Ok (ze LC m g t) (eF m (λ_=>true) t g):=by
 unfold ze;have:=a.1;rw[bV (cX (n:=64) (by omega) (by decide)),aa];refine aD (TT a c e k (f:=λb=>Gt LC m t b.1 b.2) (λaK h j=>?_) (λaK=>rfl)) λl i=>ae i
 unfold Gt;rw[aeq a c h j]
 rfl
def J1(b:cP m)(d:0<=t){g:List Int}(c:g.length=m.ai.length)(e:∀a,a∈g->fD a):Ok (sI LC m g t) (eF m (λ_=>true) t g):=KU b d c e
def akK(b:cP m)(d:0<=t){S g:List Int}(e:Fit S)(h:g.length=m.ai.length)(l:∀a,a∈g->fD a):Ok (Ay LC m g t S) (eF m (λa=>c5 (a∈S)) t g):=by
 unfold Ay;have:=b.1;rw[bV (cX (n:=64) (by omega) (by decide)),aa];refine aD (TT b d h l (f:=λc=>HZ LC m t S c.1 c.2) (λaK i k=>?_) (λaK=>rfl)) λo j=>ae j
 unfold HZ;rw[UZ b d e i k]
 rfl
end
def Fy{b:Bool}{a:Option Bool}{c:Bool}(d:a=c7 c):(bif b then c7 true else a)=c7 (b||c):=by subst d;cases b <;> rfl
def M5{b:Bool}{a:Option Bool}{c:Bool}(d:a=c7 c):(bif (!b) then c7 true else a)=c7 (!b||c):=by subst d;cases b <;> rfl
def Shaped(c:ak)(a:aM):Prop:=a.an.length=c.ai.length/\(0<=a.aa0/\a.aa0<=2147483648)/\∀b,b∈a.an->fD b
instance (a:ak) (b:aM):Decidable (Shaped a b):=by unfold Shaped;infer_instance
def Pk{c:ak}{b:aM}(k:Fit c.ai):ur LC c b=c7 (c5 (Shaped c b)):=by
 unfold ur
 by_cases g:(b.an.length:Int)=(c.ai.length:Int)
 .have j:Fit b.an:=by show b.an.length<=_;have:c.ai.length<=_:=k;omega
  have m:zZ LC b.an=c7 (b.an.any λi=>!c5 (fD i)):=by
   unfold zZ GG;have:=fF (l:=b.an) (P:=λd=>DR LC d) (p:=λi=>!c5 (fD i)) (f:=λe=>GO LC b.an e) j (λd o=>by
    unfold DR;rw[cF,aa]
    by_cases a:d=1099511627776
    .rw[aG (λn=>n a),decide_eq_true (show fD d from .inr a)];rfl
    .rw[aC a]
     congr 2
     apply decide_eq_decide.2
     exact⟨λh=>.inl h,λh=>h.resolve_right a⟩) (λe=>rfl)
   rw[show(LC.loop (λe=>GO LC b.an e) 0).bind _=_ from this,aa,gm]
  rw[aC g,cF,aa,m,aa,ot,fm rfl]
  congr 1
  apply decide_eq_decide.2
  exact⟨λa=>⟨by omega,a⟩,λa=>a.2⟩
 .rw[aG g,decide_eq_false (λa=>g (by have:=a.1;omega))]
def GV{a b:List Int}(m:Fit a):qG LC a b=c7 (c5 (a=b)):=by
 have n:a.length<=4611686018427387904:=m;unfold qG
 by_cases f:(a.length:Int)=(b.length:Int)
 .rw[aG (λh=>h f)];have l:bO (λg=>yU LC a b g) 0=c7 (if ∀i,i<a.length->(λi:Nat=>c5 (a.getD i 0≠b.getD i 0)) i=false then .inr () else .inl ()):=by
   refine oD _ _ () (λi k=>?_) ?_
   .unfold yU;rw[aC,uu k,aa,uu (by omega),aa,aJ]
    by_cases c:a.getD i 0≠b.getD i 0
    .rw[aC c];simp only[decide_eq_true c,cond_true]
    .rw[aG c];simp only[decide_eq_false c,cond_false]
   .unfold yU;rw[aG]
  rw[show LC.loop (λg=>yU LC a b g) 0=_ from l,aa]
  by_cases d:a=b
  .subst d;rw[if_pos (λi k=>decide_eq_false (λh=>h rfl)),decide_eq_true rfl];rfl
  .rw[if_neg (λe=>d ?_),decide_eq_false d];rfl;apply List.ext_getElem (by omega)
   intro i j c;have:=of_decide_eq_false (e i j);rw[ej,pu (c6 j),pu (c6 c)] at this;exact this
 .rw[aC f,decide_eq_false (λe=>f (by rw[e]))]
def uw{a:vG}{c:Int}{g:Int->Int}(e:pG a c (λq=>(λ_:Int=>true) q=true) g):eN a c g:=λp q h f _ b d=>e p q h f rfl b d
def EF{a:vG}{c d:Int}{g:Int->Int}(f:eN a c g)(k:c<=d):eN a d g:=λp q i h b e j=>by
 have:=f p q i h b e (by omega);omega
def jK(b:ak)(a:aM):Prop:=Shaped b a/\eN (rL b) a.aa0 (fn a.an)
def OI(d:ak)(f:aM):Ok (n7 LC d f) λb=>b=true->cP d/\jK d f:=by
 unfold n7;rw[ko,aa];refine aV (λe=>?_) (λ_=>ae λa=>by cases a)
 have:=e.1;rw[Pk (by show d.ai.length<=_;omega),aa];refine aV (λc=>?_) (λ_=>ae λa=>by cases a)
 refine aD (KU e c.2.1.1 c.1 c.2.2) λout g=>?_
 rw[GV (by show out.length<=_;rw[g.len,c.1];omega),aa];refine ae λa=>⟨e,c,?_⟩
 rw[<-of_decide_eq_true a];exact uw g.cl
def aiV{n:Int}(h0:0<=n)(i:n<=1000):vk LC 1 n=c7 (0,n):=by
 have d:∀a:Nat,a<=1000->vk LC 1 (a:Int)=c7 (0,(a:Int)):=by
  intro a j;have g:iN .u64 1 32=c7 0:=by rfl
  have b:iN .u64 (a:Int) 32=c7 0:=by
   rw[AD (by omega),show(2:Int)^ (min (32:Int).toNat hQ.bits)=4294967296 from rfl,j1 _ (by omega),Int.ediv_eq_zero_of_lt (by omega) (by omega)]
  have e:bits .and .u64 (a:Int) 4294967295=(a:Int):=by
   show hQ.wrap ((m3 64 (a:Int) &&& m3 64 ((4294967295:Nat):Int)).toNat:Int)=_
   rw[BitVec.toNat_and,j2,j2,j5,j5,kh (show a<2^64 by omega),show(4294967295:Nat)%2^64=2^32 -1 from rfl,Nat.and_two_pow_sub_one_eq_mod,kh (by omega),mB (by omega) (by omega)]
  have h:bits .and .u64 1 4294967295=1:=by rfl
  have c:iN .u64 0 32=c7 0:=by rfl
  have f:bits .and .u64 0 4294967295=0:=by rfl
  have z:hQ.wrap 0=0:=by rfl
  unfold vk;rw[g,aa,b,aa,e,h];simp only[Int.one_mul,Int.mul_zero,q5,m4,Int.mul_one,z];rw[mB (n:=(a:Int)) (by omega) (by omega),b,aa,z,c,aa,f,m4,z,c,aa]
  rfl
 obtain⟨a,rfl⟩:=j6 h0;exact d a (by omega)
def aaT{v:Int}(c:Nat)(w:c<=1000):∀(g:Nat) (a:Nat) (b:List Int),1<=a->c -a<=g->b.length=c->(∀i,i<a->i<c->b[i]?=c7 v)->bO (λh:List Int×Int=>pZ LC h.1 h.2) (b,(a:Int))=c7 (ec c v):=by
 intro g
 induction g with
 |zero=>
  intro a b r p j f;refine fZ ?_
  dsimp only;unfold pZ;rw[aG]
  congr 2
  apply la
  intro i
  by_cases d:i<c
  .rw[f i (by omega) d,hz,if_pos d]
  .rw[ih (by omega),hz,if_neg d]
 |succ g t=>
  intro a b r p j f
  by_cases x:a<c
  .let e:=(b.drop (0:Int).toNat).take ((a:Int).toNat - (0:Int).toNat)
   have n:e=b.take a:=by show(b.drop 0).take (a -0)=_;rw[j9,Nat.sub_zero]
   have q:e.length=a:=by rw[n,ea];omega
   have m:X.mg e (a:Int).toNat ((b.length:Int).toNat - (a:Int).toNat) b=b.take a++((b.take a).take (c -a)++b.drop (a+((b.take a).take (c -a)).length)):=by
    unfold X.mg;rw[n,dk,dk,j]
   rw[iO (a':=(X.mg e (a:Int).toNat ((b.length:Int).toNat - (a:Int).toNat) b,((a+min (c -a) a:Nat):Int)))]
   .refine t (a+min (c -a) a) _ (by omega) (by omega) ?_ (λi d o=>?_)
    .rw[m];simp only[eo,ea,h5];omega
    .rw[m];have l:(b.take a).length=a:=by rw[ea];omega
     have u:((b.take a).take (c -a)).length=min (c -a) a:=by rw[ea,l]
     by_cases k:i<a
     .rw[h6 (by omega),l3,if_pos k];exact f i k o
     .rw[eH (by omega),l,h6 (by omega),l3,if_pos (by omega),l3,if_pos (by omega)];exact f _ (by omega) (by omega)
   .dsimp only;unfold pZ;rw[aC,l8 (by omega) (by omega) (by omega),aa,l8 (by omega) (by omega) (by omega),aa];have s:c3 c4 ((a:Int)+((min ((b.length:Int).toNat - (a:Int).toNat) e.length:Nat):Int))=((a+min (c -a) a:Nat):Int):=by
     rw[q,aJ];omega
    show c7 (m0 (_,c3 c4 ((a:Int)+((min ((b.length:Int).toNat - (a:Int).toNat) e.length:Nat):Int))))=_
    rw[s]
  .refine fZ ?_
   dsimp only;unfold pZ;rw[aG]
   congr 2
   apply la
   intro i
   by_cases d:i<c
   .rw[f i (by omega) d,hz,if_pos d]
   .rw[ih (by omega),hz,if_neg d]
def Oa{v:Int}{n:Nat}(f:n<=1000):EC LC [v] (n:Int)=c7 (ec n v):=by
 unfold EC DJ;have e:hQ.wrap (([v].length:Nat):Int)=1:=by simp only[ez,hL];rfl
 rw[aG,e,mB (n:=(n:Int)) (by omega) (by omega),aiV (by omega) (by omega),aa,aa,ew rfl,aa,aG (by dsimp only;omega)];dsimp only;rw[aJ,nS (by omega) (by omega),aa,dk]
 by_cases h0:n=0
 .subst h0;have b:bO (λa:List Int×Int=>pZ LC a.1 a.2) ([],0)=c7 []:=fZ (by dsimp only;unfold pZ;rw[aG (by simp)]);exact(dL (m:=LC.loop (λa:List Int×Int=>pZ LC a.1 a.2) ([],0)) b)
 .have g:X.mg [v] 0 (ec n (0:Int)).length (ec n (0:Int))=v::ec (n -1) 0:=by
   obtain⟨c,rfl⟩:∃c,n=c+1:=⟨n -1,by omega⟩;unfold X.mg;rw[e6];simp[List.replicate_succ]
  rw[g,e6];have d:((min n ([v]:List Int).length:Nat):Int)=((1:Nat):Int):=by simp only[ez,hL];omega
  rw[d];have b:=aaT (v:=v) n f n 1 (v::ec (n -1) 0) (h8 _) (by omega) (by simp only[ez,e6];omega) (λi h _=>by
   have:i=0:=by omega
   subst this;rfl)
  exact dL b
def B6{v:Int}{a:Nat}(b:a<=1000):sJ LC [v] (a:Int)=c7 (ec a v):=Oa b
def QL{a:ak}(b:cP a):yF LC a=c7 (ec a.ai.length 1099511627776):=by
 have:=b.1;unfold yF;rw[B6 (by omega),aa]
def aoN{a:Nat}{v p:Int}(h0:0<=p)(b:p<(a:Int)):fn (ec a v) p=v:=Q4 (by rw[hz,if_pos (by omega)])
def aaW{a:ak}(c:cP a){p t:Int}(b:0<=p/\p<(a.ai.length:Int))(d:0<=t/\t<=2147483648):Ok (Cr LC a p t) λq=>q.2=0/\q.1.aa0=t/\jK a q.1/\fn q.1.an p<=t:=by
 have:=c.1;unfold Cr;rw[ko,aa,de,aC c,aJ,cF,aa,de,aC,cF,aa,de,aC d,QL c,aa];have g:(ec a.ai.length (1099511627776:Int)).length=a.ai.length:=e6;rw[gH b.1 (by omega),aa,iD b.1 (by omega),aa];have i:∀h,h∈(ec a.ai.length (1099511627776:Int)).set p.toNat t->fD h:=λh f=>by
  rcases ev f with f |rfl
  .exact .inr (gx f)
  .exact .inl d
 refine aD (J1 c d.1 (by rw[dT];exact g) i) λout e=>ae ⟨rfl,rfl,⟨⟨?_,d,e.sh⟩,uw e.cl⟩,?_⟩
 .show out.length=_
  rw[e.len,dT];exact g
 .have:=e.le p b.1 (by rw[dT,g];exact b.2);rw[wy b.1 (by omega) b.1,if_pos rfl] at this;exact this
def x4(a:ak)(b:List Int):Prop:=cj 0 ((a.ai.length:Int) -1) b
instance (a:ak) (b:List Int):Decidable (x4 a b):=by unfold x4;infer_instance
def x4.fit{m:ak}(c:cP m){a:List Int}(h:x4 m a):a.length<=64:=by
 have:=cj.len h (by omega);have:=c.1;omega
def ME(c:ak)(f:aM)(g:List Int)(d b:Int)(m:Fit g)(j:Fit c.ai):Ok (vY LC c f g d b) λe=>(e=0\/e=6\/e=8)/\(e=0->cP c/\jK c f/\x4 c g/\(0<=d/\d<=2147483648)/\(0<=b/\b<=2147483648)/\d<=b):=by
 have q:c.ai.length<=4611686018427387904:=j;unfold vY;obtain⟨v,o,i⟩:=OI c f;rw[o,aa,aJ (n:=(c.ai.length:Int) -1),kw _ _ _ m,aa,lA,ew rfl,M5 rfl,aa];refine dy (λa=>ae ⟨.inr (.inl rfl),λa=>by cases a⟩) (λa=>?_)
 rw[j3] at a;have h:=i (by simpa using a.1);have k:=of_decide_eq_false a.2;rw[cF,aa,cF,aa,fh (fh rfl),aa];refine aV (λa=>ae ⟨.inr (.inr rfl),λa=>by cases a⟩) (λp=>ae ⟨.inl rfl,λ_=>⟨h.1,h.2,dv λl=>k (.inr l),?_⟩⟩)
 omega
structure lG (m:ak) (w:aM) (l:List Int) (a b:Int) (x:aM):Prop where
 fN:cP m
 bG:jK m w
 new:jK m x
 time:x.aa0=b
 ab:0<=a/\a<=b/\b<=2147483648
 from_:w.aa0<=a
 cl:eN (rL m) a (fn x.an)
 low:∀p,p∈l->fn w.an p<=b->fn x.an p<=fn w.an p
 NK:∀p,0<=p->p<(m.ai.length:Int)->fn w.an p<=fn x.an p
def afE(f:ak)(a:aM)(l:List Int)(B b:Int)(T:Fit l)(U:Fit f.ai):Ok (yX LC f a l B b) λq=>(q.2=0/\lG f a l B b q.1)\/(q.2=43/\q.1=a/\a.aa0<=B/\∀p,p∈l->b<fn a.an p)\/((q.2=6\/q.2=8\/q.2=42)/\q.1=a):=by
 unfold yX;refine aD (ME f a l B b T U) λr Q=>?_
 refine aV (λA=>ae (.inr (.inr ⟨?_,rfl⟩))) (λA=>?_)
 .rcases Q.1 with c |c |c
  .exact absurd c A
  .exact .inl c
  .exact .inr (.inl c)
 obtain⟨C,v,h,N,K,O⟩:=Q.2 (ej.1 A);refine aV (λA=>ae (.inr (.inr ⟨.inr (.inr rfl),rfl⟩))) (λc=>?_)
 rw[QL C,aa];have ai:=v.1.1;have aj:=h.fit C;have ah:(ec f.ai.length (1099511627776:Int)).length=f.ai.length:=e6;have af:∀p,0<=p->p<(f.ai.length:Int)->fn a.an p<=1099511627776:=λp h0 c=>by
  have:=v.1.2.2 _ (oR (l:=a.an) h0 (by omega));unfold fD at this;omega
 have I:∀p,p∈l->0<=p/\p<(f.ai.length:Int):=λp V=>by have:=h.mem V;omega
 have ad:Ok (bO (λd:List Int×Bool×Int=>Ds LC l a b d.1 d.2.1 d.2.2) (ec f.ai.length (1099511627776:Int),false,0)) λt=>
  t.1.length=f.ai.length/\(∀x,x∈t.1->fD x)/\(∀p,0<=p->p<(f.ai.length:Int)->fn a.an p<=fn t.1 p)/\(∀p,p∈l->fn a.an p<=b->fn t.1 p<=fn a.an p/\t.2=true):=by
  refine di l.length (λi d=>d.2.2=(i:Int)/\d.1.length=f.ai.length/\(∀x,x∈d.1->fD x)/\(∀p,0<=p->p<(f.ai.length:Int)->fn a.an p<=fn d.1 p)/\(∀g p,g<i->l[g]?=c7 p->fn a.an p<=b->fn d.1 p<=fn a.an p/\d.2.1=true)) _ (λi d P H=>?_) (λd H=>?_) _ ⟨rfl,ah,λx w=>.inr (gx w),λp h0 c=>by rw[aoN h0 c];exact af p h0 c,λg p y=>by omega⟩
  .obtain⟨aK,W,Y⟩:=d;obtain⟨rfl,k,n,m,j⟩:=H;dsimp only at k n m j⊢;have z:l[i]?=c7 l[i]:=c6 P;have s:=I _ (dd P);generalize l[i]=p at z s;unfold Ds;rw[aC,bn,z,aa,gH s.1 (by omega),aa,aa,gH (l:=aK) s.1 (by omega),aa,iD (l:=aK) s.1 (by omega),aa];have M:=λq e=>wy (l:=aK) (p:=p) (q:=q) (x:=fn a.an p) s.1 (by omega) e
   by_cases G:fn a.an p<=b
   .rw[aC G,aa,aJ];refine ae ⟨rfl,by rw[dT];exact k,λx w=>?_,λq h0 c=>?_,λg q y e D=>⟨?_,rfl⟩⟩
    .rcases ev w with w |rfl
     .exact n x w
     .exact v.1.2.2 _ (oR (l:=a.an) s.1 (by omega))
    .dsimp only;rw[M q h0]
     split
     .rename_i r;rw[r];exact ey _
     .exact m q h0 c
    .dsimp only;have Z:=I q (fC e);rw[M q Z.1]
     split
     .rename_i r;rw[r];exact ey _
     .rename_i r
      by_cases E:g=i
      .subst E;rw[z] at e;injection e with e
       exact absurd e.symm r
      .exact(j g q (by omega) e D).1
   .rw[aG G,aa,aJ];refine ae ⟨rfl,k,n,m,λg q y e D=>?_⟩
    by_cases E:g=i
    .subst E;rw[z] at e;injection e with e
     subst e;exact absurd D G
    .exact j g q (by omega) e D
  .obtain⟨aK,W,Y⟩:=d;obtain⟨rfl,k,n,m,j⟩:=H;dsimp only at k n m j⊢;unfold Ds;rw[aG];refine ae ⟨k,n,m,λp h F=>?_⟩
   obtain⟨g,y,rfl⟩:=e5.1 h;exact j g _ y (c6 y) F
 refine aD ad λt ab=>?_
 obtain⟨u,ag,S,R⟩:=ab;rw[de];refine dy (λJ=>?_) (λJ=>ae (.inr (.inl ⟨rfl,rfl,by omega,λp h=>?_⟩)))
 .refine aD (J1 C N.1 u ag) λout o=>ae (.inl ⟨rfl,C,v,⟨⟨o.len.trans u,K,o.sh⟩,EF (uw o.cl) O⟩,rfl,⟨N.1,O,K.2⟩,by omega,uw o.cl,λp h F=>?_,λp h0 c=>?_⟩)
  .have L:=I p h;exact q6 (o.le p L.1 (by rw[u];exact L.2)) (R p h F).1
  .refine o.low (fn a.an) (λp q ac k _ m j=>?_) (λp h0 c=>S p h0 (by rw[u] at c;exact c)) p h0 (by rw[u];exact c)
   exact EF v.2 (by omega) p q ac k trivial m j
 .refine Int.not_le.1 λX=>?_
  rw[(R p h X).2] at J;cases J
structure og (m:ak) (w:aM) (l:List Int) (a b blind:Int) (x:aM) (g1:List Int):Prop where
 fN:cP m
 bG:jK m w
 new:jK m x
 time:x.aa0=b
 ab:0<=a/\a<=b/\b<=2147483648
 from_:w.aa0<=b
 bl:0<=blind/\blind<b -max a w.aa0
 off:∀p,0<=p->p<(m.ai.length:Int)->p∉l->fn g1 p<=fn w.an p
 c1:pG (rL m) (b -blind) (λq=>q∈l) (fn g1)
 le:∀p,0<=p->p<(m.ai.length:Int)->fn x.an p<=fn g1 p
 NK:∀p,0<=p->p<(m.ai.length:Int)->fn w.an p<=fn x.an p
def aaS(d:ak)(c:aM)(l:List Int)(z b C:Int)(H:Fit l)(O:Fit d.ai):Ok (wV LC d c l z b C) λq=>(q.2=0/\((∃A,og d c l z b C q.1 A)\/q.1=c))\/((q.2=6\/q.2=8\/q.2=42)/\q.1=c):=by
 unfold wV;refine aD (ME d c l z b H O) λy L=>?_
 refine aV (λD=>ae (.inr ⟨?_,rfl⟩)) (λD=>?_)
 .rcases L.1 with a |a |a
  .exact absurd a D
  .exact .inl a
  .exact .inr (.inl a)
 obtain⟨t,m,w,Q,B,W⟩:=L.2 (ej.1 D);rw[cF,aa,de];refine aV (λY=>?_) (λ_=>ae (.inr ⟨.inr (.inl rfl),rfl⟩))
 refine aV (λ_=>ae (.inr ⟨.inr (.inr rfl),rfl⟩)) (λa=>?_)
 have ad:=m.1.2.1;rw[aJ (n:=b -max z c.aa0)];refine aV (λ_=>ae (.inl ⟨rfl,.inr rfl⟩)) (λac=>?_)
 have T:=m.1.1;have af:=t.1;have ag:=w.fit t;have U:∀p,p∈l->0<=p/\p<(d.ai.length:Int):=λp P=>by have:=w.mem P;omega
 have X:∀p,0<=p->p<(d.ai.length:Int)->fn c.an p<=1099511627776:=λp h0 a=>by
  have:=m.1.2.2 _ (oR (l:=c.an) h0 (by omega));unfold fD at this;omega
 rw[bV (cX (n:=64) (by omega) (by decide)),aa];have V:Ok (bO (λe:List Int×Int=>CO LC l e.1 e.2) (c.an,0)) λu=>
  u.length=d.ai.length/\(∀x,x∈u->fD x)/\(∀p,0<=p->p<(d.ai.length:Int)->fn c.an p<=fn u p)/\(∀p,0<=p->p<(d.ai.length:Int)->p∉l->fn u p=fn c.an p):=by
  refine di l.length (λi e=>e.2=(i:Int)/\e.1.length=d.ai.length/\(∀x,x∈e.1->fD x)/\(∀p,0<=p->p<(d.ai.length:Int)->fn c.an p<=fn e.1 p)/\(∀p,0<=p->p<(d.ai.length:Int)->p∉l->fn e.1 p=fn c.an p)) _ (λi e G E=>?_) (λe E=>?_) _ ⟨rfl,T,m.1.2.2,λp h0 a=>ey _,λp _ _ _=>rfl⟩
  .obtain⟨aK,R⟩:=e;obtain⟨rfl,g,o,h,f⟩:=E;dsimp only at g o h f⊢;have J:l[i]?=c7 l[i]:=c6 G;have r:=U _ (dd G);have K:=dd G;generalize l[i]=p at J r K;unfold CO;rw[aC,bn,J,aa,gH (l:=aK) r.1 (by omega),aa,iD (l:=aK) r.1 (by omega),aa,aJ];have I:=λq v=>wy (l:=aK) (p:=p) (q:=q) (x:=1099511627776) r.1 (by omega) v
   refine ae ⟨rfl,by rw[dT];exact g,λx F=>?_,λq h0 a=>?_,λq h0 a v=>?_⟩
   .rcases ev F with F |rfl
    .exact o x F
    .exact .inr rfl
   .dsimp only;rw[I q h0]
    split
    .rename_i y;rw[y];exact X p r.1 r.2
    .exact h q h0 a
   .dsimp only;rw[I q h0,if_neg (λy=>v (by rw[y];exact K))];exact f q h0 a v
  .obtain⟨aK,R⟩:=e;obtain⟨rfl,g,o,h,f⟩:=E;dsimp only at g o h f⊢;unfold CO;rw[aG];exact ae ⟨g,o,h,f⟩
 refine aD V λu S=>?_
 obtain⟨k,Z,N,ab⟩:=S;rw[aJ (n:=b -C)];refine aD (akK t (by omega) H k Z) λA j=>?_
 refine aD (J1 t B.1 (j.len.trans k) j.sh) λout s=>ae (.inl ⟨rfl,.inl ⟨A,?_⟩⟩)
 have M:∀p,0<=p->p<(d.ai.length:Int)->fn c.an p<=fn A p:=λp h0 a=>
  j.low (fn c.an) (λp q n g _ h f=>EF m.2 (by omega) p q n g trivial h f) (λp h0 a=>N p h0 (by rw[k] at a;exact a)) p h0 (by rw[k];exact a)
 refine⟨t,m,⟨⟨s.len.trans (j.len.trans k),B,s.sh⟩,uw s.cl⟩,rfl,⟨Q.1,W,B.2⟩,by omega,⟨Y.1,by omega⟩,λp h0 a w=>?_,λp q n g o h f=>j.cl p q n g (decide_eq_true o) h f,λp h0 a=>s.le p h0 (by rw[j.len,k];exact a),λp h0 a=>?_⟩
 .rw[<-ab p h0 a w];exact j.le p h0 (by rw[k];exact a)
 .exact s.low (fn c.an) (λp q n g _ h f=>EF m.2 (by omega) p q n g trivial h f) (λp h0 a=>M p h0 (by rw[j.len,k] at a;exact a)) p h0 (by rw[j.len,k];exact a)
def acF{a:aM}{b:Int}(c:Sm a.an):xc LC a b=c7 (if b<a.aa0\/2147483648<b then(a,8) else(⟨b,a.an⟩,0)):=by
 unfold xc;rw[ew rfl,aa,bV c,aa,wL]
 split <;> rfl
structure mP (m:ak) (w:aM) (t:Int) (x:aM):Prop where
 fN:cP m
 bG:Shaped m w
 new:jK m x
 time:x.aa0=t
 wt:w.aa0<=t/\t<=2147483648
 le:∀p,0<=p->p<(m.ai.length:Int)->fn x.an p<=fn w.an p
 NK:∀h:Int->Int,eN (rL m) t h->(∀p,0<=p->p<(m.ai.length:Int)->h p<=fn w.an p)->∀p,0<=p->p<(m.ai.length:Int)->h p<=fn x.an p
def Pd(d:ak)(f:aM)(e:Int)(m:Fit d.ai):Ok (xT LC d f e) λq=>(q.2=0/\mP d f e q.1)\/((q.2=6\/q.2=8)/\q.1=f):=by
 unfold xT;rw[ko,aa,Pk m,aa,lA,fh rfl,aa];refine aV (λ_=>ae (.inr ⟨.inl rfl,rfl⟩)) (λa=>?_)
 have h:cP d:=dv λg=>a (.inl g)
 have b:Shaped d f:=dv λg=>a (.inr g)
 rw[ew rfl,aa];refine aV (λ_=>ae (.inr ⟨.inr rfl,rfl⟩)) (λs=>?_)
 have t:=b.2.1;refine aD (KU h (by omega) b.1 b.2.2) λout c=>ae (.inl ⟨rfl,h,b,⟨⟨c.len.trans b.1,⟨by show 0<=e;omega,by show e<=_;omega⟩,c.sh⟩,uw c.cl⟩,rfl,⟨by omega,by omega⟩,λp h0 a=>c.le p h0 (by rw[b.1];exact a),λk n j p h0 a=>?_⟩)
 exact c.low k (λp q o l _ r i=>n p q o l trivial r i) (λp h0 a=>j p h0 (by rw[b.1] at a;exact a)) p h0 (by rw[b.1];exact a)
def acr(f:List Int)(b:ak)(c a:Int):IJ LC f b c a=xT LC b ⟨c,f⟩ a:=rfl
def ib(a b:aM):aM:=⟨max a.aa0 b.aa0,ef min a.an b.an⟩
def join_eq{a b:aM}(k:a.an.length=b.an.length)(j:Sm a.an):xW LC a b=c7 (ib a b,0):=by
 have l:a.an.length<=1000000:=j;unfold xW;rw[aG];have g:=nV (f:=λc:Int×List Int×Int=>EG LC a b (aM.mk c.1 c.2.1) c.2.2) a.an.length (λi=>(max a.aa0 b.aa0,(ef min a.an b.an).take i,(i:Int))) (max a.aa0 b.aa0,ef min a.an b.an) (λi e=>?_) (by
  dsimp only;unfold EG;rw[aG,hM (by rw[ga];omega)])
 .refine(dL g).trans ?_
  rfl
 .dsimp only;unfold EG;have h:(ef min a.an b.an)[i]?=c7 (min a.an[i] (b.an[i]'(by omega))):=by
   rw[c6 (by rw[ga];omega),hS]
  rw[aC,bn,c6 e,aa,bn,c6 (by omega),aa,dm (by decide) (by dsimp only;rw[ea,ga];omega),aa,aJ];have d:(ef min a.an b.an).take (i+1)=(ef min a.an b.an).take i++[min a.an[i] (b.an[i]'(by omega))]:=by
   rw[o1,h];rfl
  rw[d]
  rfl
def PL{a b:aM}{p:Int}(f:a.an.length=b.an.length)(h0:0<=p)(c:p<(a.an.length:Int)):fn (ib a b).an p=min (fn a.an p) (fn b.an p):=by
 have e:=iD (l:=a.an) h0 c;have d:=iD (l:=b.an) h0 (by omega);refine Q4 ?_
 show(ef min a.an b.an)[p.toNat]?=_
 rw[List.getElem?_zipWith,e,d]
def jK.join{m:ak}{a b:aM}(c:jK m a)(d:jK m b)(C:cP m):jK m (ib a b):=by
 have e:a.an.length=b.an.length:=c.1.1.trans d.1.1.symm;have H:=c.1.2.1;have I:=d.1.2.1;refine⟨⟨?_,⟨?_,?_⟩,λx B=>?_⟩,λp q n A _ y o=>?_⟩
 .show(ef min a.an b.an).length=_
  rw[ga, <-e,c.1.1];omega
 .show 0<=max a.aa0 b.aa0;omega
 .show max a.aa0 b.aa0<=_;omega
 .obtain⟨i,hi,rfl⟩:=e5.1 (show x∈ef min a.an b.an from B);rw[ga] at hi;rw[hS];have G:=c.1.2.2 _ (dd (show i<a.an.length by omega));have D:=d.1.2.2 _ (dd (show i<b.an.length by omega));unfold fD at*;omega
 .obtain⟨i,r,l,h,s,h0,k,j⟩:=A;obtain⟨u,t⟩:=Cn C h l;rw[<-k] at u;rw[<-j] at t;have F:=c.1.1;rw[PL e u.1 (by omega)] at y o⊢;rw[PL e t.1 (by omega)];have w:(ib a b).aa0=max a.aa0 b.aa0:=rfl;rw[w] at o⊢
  by_cases E:fn a.an p<=fn b.an p
  .have:=c.2 p q n ⟨i,r,l,h,s,h0,k,j⟩ trivial (by omega) (by omega);omega
  .have:=d.2 p q n ⟨i,r,l,h,s,h0,k,j⟩ trivial (by omega) (by omega);omega
def kM(p:Int->Bool)(a:Nat):List Int:=(List.range a).filterMap λ(i:Nat)=>if p (i:Int) then c7 (i:Int) else j4
def SJ{p:Int->Bool}{c:Nat}{a:Int}:a∈kM p c↔0<=a/\a<(c:Int)/\p a=true:=by
 unfold kM;rw[List.mem_filterMap]
 constructor
 .rintro⟨i,e,b⟩;rw[ma] at e
  split at b
  .injection b with b
   subst b;exact⟨by omega,by omega,by assumption⟩
  .cases b
 .rintro⟨f,g,d⟩;refine⟨a.toNat,ma.2 (by omega),?_⟩
  rw[show((a.toNat:Nat):Int)=a by omega,if_pos d]
def pQ{p:Int->Bool}{n:Nat}:(kM p n).length<=n:=by
 unfold kM;exact h9 (List.length_filterMap_le _ _) (by rw[List.length_range];exact h8 _)
def afI{p:Int->Bool}{a:Nat}:kM p (a+1)=if p (a:Int) then kM p a++[(a:Int)] else kM p a:=by
 unfold kM;rw[List.range_succ,List.filterMap_append]
 split
 .rename_i b;simp[b]
 .rename_i b;simp[b]
def GY{n:Nat}(l:n<=1000000){P:Int->Option Bool}{p:Int->Bool}{f:List Int×Int->Option ((List Int×Int)⊕List Int)}(e:∀i:Nat,i<n->P (i:Int)=c7 (p (i:Int)))
 (c:∀b a,f (b,a)=bif c5 (a<(n:Int)) then(P a).bind λj=>(bif j then(bj 8 b ([a]:List Int)).bind λg=>c7 g else c7 b).bind λh=>c7 (.inl (h,c3 c4 (a+1))) else c7 (.inr b)):
 bO f ([],0)=c7 (kM p n):=by
 refine nV (f:=f) n (λi=>(kM p i,(i:Int))) (kM p n) (λi d=>?_) (by rw[c,aG])
 rw[c,aC,e i d,aa,afI];have:=pQ (p:=p) (n:=i);rw[dm (by decide) (by omega),aJ];cases k:p (i:Int) with
 |true=>rfl
 |false=>rfl
def dz(a:aM)(b:Int):List Int:=kM (λp=>c5 (fn a.an p<=b)) a.an.length
def Az{a:aM}{c:Int}(d:Sm a.an):su LC a c=c7 (dz a c):=by
 unfold su HL;have e:=GY (n:=a.an.length) d (P:=λb=>Dw LC b a c) (p:=λp=>c5 (fn a.an p<=c)) (f:=λb=>Ge LC (a.an.length:Int) a c b.1 b.2) (λi g=>by
  unfold Dw;rw[gH (by omega) (by omega),aa]) (λh b=>rfl)
 rw[show LC.loop (λb:List Int×Int=>Ge LC (a.an.length:Int) a c b.1 b.2) ([],0)=_ from e,aa,aa]
 rfl
def Sq{b:aM}{c a:Int}:a∈dz b c↔0<=a/\a<(b.an.length:Int)/\fn b.an a<=c:=by
 unfold dz;rw[SJ,decide_eq_true_iff]
def Zn{c b:aM}{a:Int}(j:Sm c.an)(k:Sm b.an):EE LC c b a=c7 (c5 (∃d,d∈dz c a/\d∈dz b a)):=by
 unfold EE;rw[Az k,aa,Az j,aa];have n:Fit (dz b a):=by
  have:(dz b a).length<=b.an.length:=pQ;have:b.an.length<=1000000:=k;show(dz b a).length<=_
  omega
 have o:Fit (dz c a):=by
  have:(dz c a).length<=c.an.length:=pQ;have:c.an.length<=1000000:=j;show(dz c a).length<=_
  omega
 have m:B3 LC (dz c a) (dz b a)=c7 ((dz c a).any λd=>c5 (d∈dz b a)):=by
  unfold B3 Iw;have:=fF (l:=dz c a) (P:=λi=>zO LC i (dz b a)) (p:=λd=>c5 (d∈dz b a)) (f:=λe=>IF LC (dz c a) (dz b a) e) o (λi q=>by
   unfold zO;rw[contains_eq n,aa]) (λe=>rfl)
  rw[show(LC.loop (λe=>IF LC (dz c a) (dz b a) e) 0).bind _=_ from this,aa,gm]
 rw[m,aa]
 congr 1
 rw[m5,o8,decide_eq_true_iff]
 constructor
 .rintro⟨d,h,g⟩;exact⟨d,h,of_decide_eq_true g⟩
 .rintro⟨d,h,g⟩;exact⟨d,h,decide_eq_true g⟩
structure tz (w:ay):Prop where
 tg:Sm w.aw
 wh:Sm w.aH
 fr:∀x,x∈w.aH->Sm x.an
def gF(b:aL):Prop:=Sm b.aA/\∀a,a∈b.aA->tz a
def Tz{a:ay}(d:tz a):oM LC a=c7 a:=by
 unfold oM;rw[bV d.tg,aa];have h:=jm (f:=λe:List Int×List aM×Int=>r9 LC a (ay.mk e.1 e.2.1) e.2.2) a.aH (λb i=>(a.aw,b,i)) (λb=>(a.aw,b)) (λb j k c=>by
  dsimp only;unfold r9;have g:=jW d.wh c;rw[aC (iy c),jg c,aa,bV (d.fr j (ks c)),aa,dm (by decide) g,aa,aJ]) (by
  dsimp only;unfold r9;rw[aG])
 exact dL h
def zK{a:ay}(d:tz a):mH LC a=c7 (a.aH,a.aw):=by
 unfold mH;rw[bV d.tg,aa];have h:=jm (f:=λe:List Int×List aM×Int=>CH LC a (ay.mk e.1 e.2.1) e.2.2) a.aH (λb i=>(a.aw,b,i)) (λb=>(a.aw,b)) (λb j k c=>by
  dsimp only;unfold CH;have g:=jW d.wh c;rw[aC (iy c),jg c,aa,bV (d.fr j (ks c)),aa,dm (by decide) g,aa,aJ]) (by
  dsimp only;unfold CH;rw[aG])
 exact dL h
def Zo{a:ay}(d:tz a):Ac LC a=c7 (a.aw,a.aH):=by
 unfold Ac;rw[bV d.tg,aa];have h:=jm (f:=λe:List aM×Int=>CV LC a (ay.mk a.aw e.1) e.2) a.aH (λb i=>(b,i)) (λb=>b) (λb j k c=>by
  dsimp only;unfold CV;have g:=jW d.wh c;rw[aC (iy c),jg c,aa,bV (d.fr j (ks c)),aa,dm (by decide) g,aa,aJ]) (by
  dsimp only;unfold CV;rw[aG])
 exact dL h
def kG(a b:Int):Int:=if a<b then -1 else if b<a then 1 else 0
def G1(c b:Int):uE LC c b=c7 (kG c b):=by
 unfold uE Cl kG;rw[aa,aa,aG (λa=>a rfl),aG (λa=>a rfl),wL]
 split
 .rfl
 .rw[wL];split <;> rfl
def iH:List Int->List Int->Int
 |[],[]=>0
 |[],_::_=>-1
 |_::_,[]=>1
 |a::d,c::b=>if a<c then -1 else if c<a then 1 else iH d b
def PW{a b:List Int}(p:Sm a):sL LC a b=c7 (iH a b):=by
 have t:a.length<=1000000:=p;unfold sL;have k:∀(e i:Nat),i+e=a.length->i<=b.length->((bO (λn=>ui LC a b n) (i:Int)).bind λl=>Sum.elim (λo=>c7 o) (λs=>bif c5 ((a.length:Int)<(b.length:Int)) then c7 (-1) else c7 0) l)=c7 (iH (a.drop i) (b.drop i)):=by
  intro e
  induction e with
  |zero=>
   intro i m q;rw[fZ (b:=Sum.inr ()) (by unfold ui;rw[aG]),aa,ei,ie (show a.length<=i by omega)]
   by_cases d:(a.length:Int)<(b.length:Int)
   .rw[aC d,gb (show i<b.length by omega)];rfl
   .rw[aG d,ie (show b.length<=i by omega)];rfl
  |succ e r=>
   intro i m q;have f:i<a.length:=by omega
   rw[gb f]
   by_cases d:(b.length:Int)<=(i:Int)
   .rw[fZ (b:=m0 1) (by unfold ui;rw[aC,bn,c6 f,aa,aC d]),aa,ft,ie (show b.length<=i by omega)]
    rfl
   .have h:i<b.length:=by omega
    rw[gb h];unfold iH;have c:ui LC a b (i:Int)=bif c5 (kG a[i] b[i]≠0) then c7 (Sum.inr (m0 (kG a[i] b[i]))) else c7 (m0 ((i:Int)+1)):=by
     unfold ui;rw[aC,bn,c6 f,aa,aG d,bn,c6 h,aa,G1,aa,aJ]
    unfold kG at c
    by_cases g:a[i]<b[i]
    .rw[if_pos g] at c⊢;rw[fZ (b:=m0 (-1)) (by rw[c];rfl)];rfl
    .rw[if_neg g] at c⊢
     by_cases j:b[i]<a[i]
     .rw[if_pos j] at c⊢;rw[fZ (b:=m0 1) (by rw[c];rfl)];rfl
     .rw[if_neg j] at c⊢;rw[iO (a':=((i+1:Nat):Int)) (by rw[c];rfl)];exact r (i+1) (by omega) (by omega)
 have:=k a.length 0 (by omega) (by omega);rw[j9,j9] at this;exact this
def SV:∀a:List Int,iH a a=0
 |[]=>rfl
 |b::a=>by unfold iH;rw[if_neg (by omega),if_neg (by omega)];exact SV a
def NH:∀g b f:List Int,iH g b<0->iH b f<0->iH g f<0
 |[],[],_,a,_=>by simp[iH] at a
 |[],_::_,[],_,a=>by simp[iH] at a
 |[],_::_,_::_,_,_=>by simp[iH]
 |_::_,[],_,a,_=>by simp[iH] at a
 |_::_,_::_,[],_,a=>by simp[iH] at a
 |k::g,d::b,z::f,e,c=>by
  unfold iH at e c⊢
  by_cases l:k<d
  .by_cases h:d<z
   .rw[if_pos (by omega)];decide
   .rw[if_neg h] at c
    by_cases i:z<d
    .rw[if_pos i] at c;omega
    .rw[if_pos (by omega)];decide
  .rw[if_neg l] at e
   by_cases h:d<k
   .rw[if_pos h] at e;omega
   .rw[if_neg h] at e
    by_cases i:d<z
    .rw[if_pos (by omega)];decide
    .rw[if_neg i] at c
     by_cases j:z<d
     .rw[if_pos j] at c;omega
     .rw[if_neg j] at c;rw[if_neg (by omega),if_neg (by omega)];exact NH g b f e c
structure mz (m:ak) (b:aL):Prop where
 fN:cP m
 num:1<=b.aA.length/\b.aA.length<=24
 len:∀w,w∈b.aA->(1<=w.aw.length/\w.aw.length<=12)/\w.aH.length=w.aw.length/\lz w.aw
 perm:∀w w',w∈b.aA->w'∈b.aA->dQ w.aw=dQ w'.aw
 asc:∀i w w',b.aA[i]?=c7 w->b.aA[i+1]?=c7 w'->iH w.aw w'.aw<0
 ok:∀w,w∈b.aA->∀x,x∈w.aH->jK m x
def ah8{m:ak}{l:List aM}(q:Fit l):Ok (E5 LC l m) λb=>b=false->∀a,a∈l->jK m a:=by
 unfold E5 FJ;have h:∀a,∃b,n7 LC m a=c7 b/\(b=true->cP m/\jK m a):=λa=>OI m a
 let p:aM->Bool:=λa=>!(n7 LC m a).getD false
 have:=fF (l:=l) (P:=λc=>Ld LC c m) (p:=p) (f:=λd=>HW LC l m d) q (λc r=>by
  obtain⟨b,e,_⟩:=h c;show((n7 LC m c).bind λj=>c7 (!j))=c7 (!(n7 LC m c).getD false)
  rw[e];rfl) (λd=>rfl)
 rw[show(LC.loop (λd=>HW LC l m d) 0).bind _=_ from this,aa,gm];refine ae λi a o=>?_
 rw[k0] at i;have g:=i a o;obtain⟨b,e,n⟩:=h a;have k:p a= !b:=by show(!(n7 LC m a).getD false)=_;rw[e];rfl
 rw[k] at g;cases b with
 |true=>exact(n rfl).2
 |false=>exact absurd rfl g
def vB(m:ak)(b:aL)(u:gF b):Ok (p8 LC m b) λv=>v=true->mz m b:=by
 unfold p8;rw[ko,aa,cF,aa,lA,fh rfl,aa];refine aV (λ_=>ae λn=>by cases n) (λn=>?_)
 have T:cP m:=dv λh=>n (.inl h)
 have h:1<=(b.aA.length:Int)/\(b.aA.length:Int)<=24:=dv λh=>n (.inr h)
 have h0:b.aA[0]?=c7 (b.aA[0]'(by omega)):=c6 (by omega);have x:=dd (show 0<b.aA.length by omega);generalize b.aA[0]'(by omega)=t at h0 x;have I:aj b.aA 0=c7 t:=by rw[show(0:Int)=((0:Nat):Int) from rfl,bn];exact h0
 rw[I,aa];unfold qK;rw[aa,Iy (u.2 t x).tg,aa];refine aD (Q:=λw=>match w with | .inl _=>True | .inr _=>mz m b) ?_ λw M=>?_
 .refine di b.aA.length (λi s=>s=(i:Int)/\(∀c a,c<i->b.aA[c]?=c7 a->((1<=a.aw.length/\a.aw.length<=12)/\a.aH.length=a.aw.length/\lz a.aw)/\dQ a.aw=dQ t.aw/\(∀y,y∈a.aH->jK m y)/\∀d,0<c->b.aA[c -1]?=c7 d->iH d.aw a.aw<0)) _ (λi s B f=>?_) (λs f=>?_) _ ⟨rfl,λc a j=>by omega⟩
  .obtain⟨rfl,f⟩:=f;have e:b.aA[i]?=c7 b.aA[i]:=c6 B;have A:=dd B;generalize b.aA[i]=a at e A;have r:=u.2 a A;unfold Fm;rw[aC,bn,e,aa,cF,aa,O6 r.tg,aa,lA,ew rfl,fh rfl,aa];refine aV (λ_=>ae trivial) (λo=>?_)
   unfold qK;rw[aa,Iy r.tg,aa,GV (by show(dQ a.aw).length<=_;rw[uP];have:=jZ r.tg;omega),aa,de];refine aV (λp=>?_) (λ_=>ae trivial)
   have R:Ok (bif c5 (0<(i:Int)) then(aj b.aA (c3 c4 ((i:Int) -1))).bind λH=>(sL LC H.aw a.aw).bind λU=>c7 (c5 (0<=U)) else c7 false) λv=>v=false->∀d,0<i->b.aA[i -1]?=c7 d->iH d.aw a.aw<0:=by
    refine aV (λO=>?_) (λO=>ae λ_ d V=>by omega)
    have z:b.aA[i -1]?=c7 (b.aA[i -1]'(by omega)):=c6 (by omega);have C:=dd (show i -1<b.aA.length by omega);generalize b.aA[i -1]'(by omega)=v at z C;rw[aJ,show(i:Int) -1=((i -1:Nat):Int) by omega,bn,z,aa,PW (u.2 v C).tg,aa];refine ae λD d _ g=>?_
    injection g with g
    subst g;have:=of_decide_eq_false D;omega
   refine aD R λX N=>?_
   refine dy (λ_=>ae trivial) (λE=>?_)
   refine aD (ah8 (l:=a.aH) (m:=m) (by show a.aH.length<=_;have:=jZ r.wh;omega)) λW L=>?_
   refine dy (λ_=>ae trivial) (λJ=>?_)
   rw[aJ];refine ae ⟨rfl,λc d j g=>?_⟩
   by_cases k:c=i
   .subst k;rw[e] at g;injection g with g
    subst g;refine⟨⟨?_,?_,dv λh=>o (.inr (.inr h))⟩,p,L J,λd K F=>N E d K F⟩
    .have:1<=(a.aw.length:Int)/\(a.aw.length:Int)<=12:=dv λh=>o (.inl h)
     omega
    .have:(a.aH.length:Int)=a.aw.length:=dv λh=>o (.inr (.inl h))
     omega
   .exact f c d (by omega) g
  .obtain⟨rfl,f⟩:=f;unfold Fm;rw[aG];have q:∀a,a∈b.aA->∃c,c<b.aA.length/\b.aA[c]?=c7 a:=λa e=>by
    obtain⟨c,j,rfl⟩:=e5.1 e;exact⟨c,j,c6 j⟩
   refine ae ⟨T,by omega,λa e=>?_,λa d e g=>?_,λi a d o p=>?_,λa e=>?_⟩
   .obtain⟨c,j,k⟩:=q a e;exact(f c a j k).1
   .obtain⟨c,j,k⟩:=q a e;obtain⟨P,S,G⟩:=q d g;exact(f c a j k).2.1.trans (f P d S G).2.1.symm
   .exact(f (i+1) d (dt.1 p).1 p).2.2.2 a (by omega) (by rw[show i+1 -1=i by omega];exact o)
   .obtain⟨c,j,k⟩:=q a e;exact(f c a j k).2.2.1
 .cases w with
  |inl _=>exact ae λn=>by cases n
  |inr _=>exact ae λ_=>M
def mz.lt{m:ak}{b:aL}(h:mz m b):∀{i a:Nat} {d c:ay},i<a->b.aA[i]?=c7 d->b.aA[a]?=c7 c->iH d.aw c.aw<0:=by
 intro i a d c t o k
 induction a generalizing c with
 |zero=>omega
 |succ a s=>
  have n:a<b.aA.length:=by have:=(dt.1 k).1;omega
  have e:=c6 n;have j:=h.asc a _ c e k
  by_cases l:i=a
  .subst l;rw[o] at e;injection e with e
   rw[e];exact j
  .exact NH _ _ _ (s (by omega) e) j
def Fb{f:Type}[DecidableEq f]:∀(c a:List f),c.Nodup->(∀b,b∈c->b∈a)->c.length<=a.length
 |[],a,_,_=>oS _
 |b::c,a,d,h=>by
  rw[List.nodup_cons] at d;have i:=Fb c (a.erase b) d.2 λk e=>(List.mem_erase_of_ne (λj=>d.1 (by rw[<-j];exact e))).2 (h k (by simp[e]))
  have g:=h b (by simp);rw[List.length_erase_of_mem g] at i;have:=List.length_pos_of_mem g;simp only[ez];omega
def aqu(a h:List Int)(n:a.length<=3)(e:h.Perm a):h∈[[a.getD 0 0,a.getD 1 0,a.getD 2 0].take a.length,[a.getD 0 0,a.getD 2 0,a.getD 1 0].take a.length,[a.getD 1 0,a.getD 0 0,a.getD 2 0].take a.length,[a.getD 1 0,a.getD 2 0,a.getD 0 0].take a.length,[a.getD 2 0,a.getD 0 0,a.getD 1 0].take a.length,[a.getD 2 0,a.getD 1 0,a.getD 0 0].take a.length]:=by
 match a,n with
 |[],_=>rw[e.eq_nil];simp
 |[d],_=>rw[hU.1 e];simp
 |[d,b],_=>
  have k:=e.length_eq
  match h,k with
  |[c,f],_=>
   have l:c=d\/c=b:=by simpa using e.mem_iff.1 (show c∈[c,f] by simp)
   rcases l with rfl |rfl
   .have:=hU.1 (hD e);injection this with this
    subst this;simp
   .have:=hU.1 (hD (e.trans (k6 c d [])));injection this with this
    subst this;simp
 |[d,b,g],_=>
  have k:=e.length_eq
  match h,k with
  |[c,f,z],_=>
   have l:c=d\/c=b\/c=g:=by simpa using e.mem_iff.1 (show c∈[c,f,z] by simp)
   have j:∀p q:Int,[f,z].Perm [p,q]->(f=p/\z=q)\/(f=q/\z=p):=λp q i=>by
    have o:f=p\/f=q:=by simpa using i.mem_iff.1 (show f∈[f,z] by simp)
    rcases o with rfl |rfl
    .have:=hU.1 (hD i);injection this with this
     exact .inl ⟨rfl,this⟩
    .have:=hU.1 (hD (i.trans (k6 f p [])));injection this with this
     exact .inr ⟨rfl,this⟩
   rcases l with rfl |rfl |rfl
   .rcases j b g (hD e) with⟨rfl,rfl⟩ |⟨rfl,rfl⟩ <;> simp
   .rcases j d g (hD (e.trans (k6 c d [g]))) with⟨rfl,rfl⟩ |⟨rfl,rfl⟩ <;> simp
   .have m:[d,b,c].Perm [c,d,b]:=((k6 c b []).cons d).trans (k6 c d [b]);rcases j d b (hD (e.trans m)) with⟨rfl,rfl⟩ |⟨rfl,rfl⟩ <;> simp
def F9{a b:List Int}(c:dQ a=dQ b):a.Perm b:=(uK a).symm.trans (c▸uK b)
def mz.Mp{m:ak}{b:aL}(h:mz m b){a:ay}(h0:a∈b.aA)(d:a.aw.length<=3):b.aA.length<=6:=by
 have e:(b.aA.map (·.aw)).length=b.aA.length:=eE _;rw[<-e];refine h9 (Fb _ _ ?_ (λs l=>?_)) (Nat.le_of_eq (?_:List.length [[a.aw.getD 0 0,a.aw.getD 1 0,a.aw.getD 2 0].take a.aw.length,[a.aw.getD 0 0,a.aw.getD 2 0,a.aw.getD 1 0].take a.aw.length,[a.aw.getD 1 0,a.aw.getD 0 0,a.aw.getD 2 0].take a.aw.length,[a.aw.getD 1 0,a.aw.getD 2 0,a.aw.getD 0 0].take a.aw.length,[a.aw.getD 2 0,a.aw.getD 0 0,a.aw.getD 1 0].take a.aw.length,[a.aw.getD 2 0,a.aw.getD 1 0,a.aw.getD 0 0].take a.aw.length]=6))
 .refine h7.2 λi o hi c j he=>?_
  rw[eE] at hi c;rw[o9,o9] at he;have:=h.lt j (c6 hi) (c6 c);rw[he,SV] at this;omega
 .obtain⟨n,k,rfl⟩:=j8.1 l;exact aqu _ _ d (F9 (h.perm n a k h0))
 .rfl
def IH(e:aM->aM->Prop)(d:Int)(a f:ay):Prop:=∃(i:Nat) (c b:aM),a.aw[i]?=c7 d/\a.aH[i]?=c7 c/\e c b/\f=⟨a.aw,a.aH.set i b⟩
structure kz (R:aM->aM->Prop) (C:aM->Prop) (tag:Int) (l l':List ay):Prop where
 len:l'.length<=l.length
 from_:∀w',w'∈l'->∃w,w∈l/\IH R tag w w'
 b9:∀w,w∈l->(∃w',w'∈l'/\IH R tag w w')\/∃(i:Nat) (x:aM),w.aw[i]?=c7 tag/\w.aH[i]?=c7 x/\C x
def kz.more{j:aM->aM->Prop}{C:aM->Prop}{tag:Int}{n m:List ay}(h:kz j C tag n m){k l:ay}(o:IH j tag k l):kz j C tag (n++[k]) (m++[l]):=by
 refine⟨by have:=h.len;simp;omega,λv a=>?_,λv a=>?_⟩
 .rcases e4.1 a with a |a
  .obtain⟨c,d,e⟩:=h.from_ v a;exact⟨c,by simp[d],e⟩
  .rw[e0] at a;subst a;exact⟨k,by simp,o⟩
 .rcases e4.1 a with a |a
  .rcases h.b9 v a with⟨c,d,e⟩ |s
   .exact .inl ⟨c,by simp[d],e⟩
   .exact .inr s
  .rw[e0] at a;subst a;exact .inl ⟨l,by simp,o⟩
def kz.drop{e:aM->aM->Prop}{C:aM->Prop}{tag:Int}{j d:List ay}(h:kz e C tag j d){c:ay}{i:Nat}{x:aM}(k:c.aw[i]?=c7 tag)(n:c.aH[i]?=c7 x)(s:C x):kz e C tag (j++[c]) d:=by
 refine⟨by have:=h.len;simp;omega,λv a=>?_,λv a=>?_⟩
 .obtain⟨l,m,o⟩:=h.from_ v a;exact⟨l,by simp[m],o⟩
 .rcases e4.1 a with a |a
  .exact h.b9 v a
  .rw[e0] at a;subst a;exact .inr ⟨i,x,k,n,s⟩
structure oG (R:aM->aM->Prop) (C:aM->Prop) (m:ak) (tag:Int) (b b':aL):Prop where
 v:mz m b
 ne:b'.aA≠[]
 n:kz R C tag b.aA b'.aA
def OX{b:List Int}{a:Int}(f:a∈b):∃i:Nat,gg (λc=>c5 (a=c)) b=(i:Int)/\b[i]?=c7 a:=by
 have h0:0<=gg (λc=>c5 (a=c)) b:=Aw.2 ⟨a,f,decide_eq_true rfl⟩;obtain⟨i,h,d,g,e,_⟩:=HN h0;refine⟨i,d,?_⟩
 rw[g,of_decide_eq_true e]
def iE{c:Type}{a:List c}{i:Nat}{b:c}(d:a[i]?=c7 b):a.take (i+1)=a.take i++[b]:=by
 rw[o1,d];rfl
def LG(g:ak)(b:aL)(m:Int)(e:List Int)(a f:Int)(D:gF b)(N:Fit e)(P:Fit g.ai):Ok (CS LC g b m e a f) λq=>(q.2=0/\oG (λc d=>d=c\/lG g c e a f d) (λc=>c.aa0<=a/\∀p,p∈e->f<fn c.an p) g m b q.1)\/(q.2≠0/\q.1=b):=by
 unfold CS;refine aD (Q:=λr=>(r.2.2.2.2.2.2=0/\oG (λc d=>d=c\/lG g c e a f d) (λc=>c.aa0<=a/\∀p,p∈e->f<fn c.an p) g m b r.2.2.2.2.2.1)\/(r.2.2.2.2.2.2≠0/\r.2.2.2.2.2.1=b)) ?_ λr M=>ae M
 unfold I3;refine aD (vB g b D) λv Z=>?_
 rw[de];refine dy (λV=>?_) (λ_=>ae (.inr ⟨by simp,rfl⟩))
 have y:=Z V;have al:=y.num;have h0:b.aA[0]?=c7 (b.aA[0]'(by omega)):=c6 (by omega);have C:=dd (show 0<b.aA.length by omega);generalize b.aA[0]'(by omega)=w at h0 C;have S:aj b.aA 0=c7 w:=by rw[show(0:Int)=((0:Nat):Int) from rfl,bn];exact h0
 rw[S,aa,contains_eq (by show w.aw.length<=_;have:=jZ (D.2 w C).tg;omega),aa,de];refine aV (λad=>?_) (λ_=>ae (.inr ⟨by simp,rfl⟩))
 refine aD (Q:=λk=>match k with
  | .inl k=>k.2.2.2.2.2.2≠0/\aL.mk k.2.2.2.2.2.1=b
  | .inr k=>kz (λc d=>d=c\/lG g c e a f d) (λc=>c.aa0<=a/\∀p,p∈e->f<fn c.an p) m b.aA k.2.2.2.2.2) ?_ λk E=>?_
 .refine di b.aA.length (λi z=>∃out,z=(g.ai,g.af,e,a,f,out,(i:Int))/\kz (λc d=>d=c\/lG g c e a f d) (λc=>c.aa0<=a/\∀p,p∈e->f<fn c.an p) m (b.aA.take i) out) _ (λi z G B=>?_) (λz B=>?_) _ ⟨[],rfl,⟨by simp,λah n=>(by cases n),λh n=>(by simp at n)⟩⟩
  .obtain⟨out,rfl,o⟩:=B;have t:b.aA[i]?=c7 b.aA[i]:=c6 G;have x:=dd G;generalize b.aA[i]=h at t x;have Y:=D.2 h x;have ag:=y.len h x;have L:m∈h.aw:=(F9 (y.perm h w x C)).mem_iff.2 ad;obtain⟨l,X,A⟩:=OX L;have af:l<h.aH.length:=by have:=(dt.1 A).1;omega
   have s:h.aH[l]?=c7 h.aH[l]:=c6 af;generalize h.aH[l]=c at s;have ai:out.length<=24:=by have:=o.len;rw[ea] at this;omega
   dsimp only;unfold Gz;rw[aC,bn,t,aa,Bb (by show h.aw.length<=_;omega),X,aa,zK Y,aa];dsimp only;rw[bn,s,aa,dk,s,aa];unfold JT;obtain⟨q,U,R⟩:=afE g c e a f N P;have O:yX LC (ak.mk g.ai g.af) c e a f=c7 q:=U;rw[O,aa,aa];dsimp only;simp only[aa];have fin:∀d,(d=c\/lG g c e a f d)->kz (λc d=>d=c\/lG g c e a f d) (λc=>c.aa0<=a/\∀p,p∈e->f<fn c.an p) m (b.aA.take (i+1)) (out++[ay.mk h.aw (h.aH.set l d)]):=λd J=>by
    rw[iE t];exact o.more ⟨l,c,d,A,s,J,rfl⟩
   have H:∀u,u=h.aH.set l q.1\/u=h.aH.set l c->(q.1=c\/lG g c e a f q.1)->kz (λc d=>d=c\/lG g c e a f d) (λc=>c.aa0<=a/\∀p,p∈e->f<fn c.an p) m (b.aA.take (i+1)) (out++[ay.mk h.aw u]):=λu W T=>by
    rcases W with rfl |rfl
    .exact fin _ T
    .exact fin _ (.inl rfl)
   rcases R with⟨j,ac⟩ |⟨j,F,ab,I⟩ |⟨j,F⟩
   .rw[j];simp only[aa,decide_eq_true,decide_eq_false,Int.reduceEq,decide_false,decide_true,cond_true,cond_false,ft,ei];rw[dm (by decide) (by omega),aa,aJ];exact ae ⟨_,rfl,H _ (.inl rfl) (.inr ac)⟩
   .rw[j];simp only[aa,Int.reduceEq,decide_false,decide_true,cond_true,cond_false,ft,ei];rw[aJ];refine ae ⟨_,rfl,?_⟩
    rw[iE t];exact o.drop A s ⟨ab,I⟩
   .rcases j with j |j |j
    .rw[j];simp only[aa,Int.reduceEq,decide_false,decide_true,cond_true,cond_false,ft,ei];exact ae ⟨by simp,rfl⟩
    .rw[j];simp only[aa,Int.reduceEq,decide_false,decide_true,cond_true,cond_false,ft,ei];exact ae ⟨by simp,rfl⟩
    .rw[j];simp only[aa,Int.reduceEq,decide_false,decide_true,cond_true,cond_false,ft,ei];rw[dm (by decide) (by omega),aa,aJ];exact ae ⟨_,rfl,H _ (.inr (ou s).symm) (.inl F)⟩
  .obtain⟨out,rfl,o⟩:=B;dsimp only;unfold Gz;rw[aG];rw[gy] at o;exact ae o
 .cases k with
  |inl k=>exact ae (.inr E)
  |inr k=>
   dsimp only[ei];refine aV (λ_=>ae (.inr ⟨by simp,rfl⟩)) (λK=>ae (.inl ⟨rfl,y,λn=>K ?_,E⟩))
   have n:k.2.2.2.2.2=[]:=n;rw[n];rfl
def Sj(e:ak)(b:aL)(o:Int)(g:List Int)(a l k:Int)(C:gF b)(K:Fit g)(M:Fit e.ai):Ok (Bq LC e b o g a l k) λq=>(q.2=0/\oG (λc d=>d=c\/∃h,og e c g a l k d h) (λ_=>False) e o b q.1)\/(q.2≠0/\q.1=b):=by
 unfold Bq;refine aD (Q:=λr=>(r.2.2.2.2.2.2.2=0/\oG (λc d=>d=c\/∃h,og e c g a l k d h) (λ_=>False) e o b r.2.2.2.2.2.2.1)\/(r.2.2.2.2.2.2.2≠0/\r.2.2.2.2.2.2.1=b)) ?_ λr J=>ae J
 unfold Hu;refine aD (vB e b C) λv U=>?_
 rw[de];refine dy (λR=>?_) (λ_=>ae (.inr ⟨by simp,rfl⟩))
 have x:=U R;have ac:=x.num;have h0:b.aA[0]?=c7 (b.aA[0]'(by omega)):=c6 (by omega);have B:=dd (show 0<b.aA.length by omega);generalize b.aA[0]'(by omega)=u at h0 B;have O:aj b.aA 0=c7 u:=by rw[show(0:Int)=((0:Nat):Int) from rfl,bn];exact h0
 rw[O,aa,contains_eq (by show u.aw.length<=_;have:=jZ (C.2 u B).tg;omega),aa,de];refine aV (λW=>?_) (λ_=>ae (.inr ⟨by simp,rfl⟩))
 refine aD (Q:=λj=>match j with
  | .inl j=>j.2.2.2.2.2.2.2≠0/\aL.mk j.2.2.2.2.2.2.1=b
  | .inr j=>kz (λc d=>d=c\/∃h,og e c g a l k d h) (λ_=>False) o b.aA j.2.2.2.2.2.2) ?_ λj E=>?_
 .refine di b.aA.length (λi y=>∃out,y=(e.ai,e.af,g,a,l,k,out,(i:Int))/\kz (λc d=>d=c\/∃h,og e c g a l k d h) (λ_=>False) o (b.aA.take i) out) _ (λi y F A=>?_) (λy A=>?_) _ ⟨[],rfl,⟨by simp,λZ n=>(by cases n),λf n=>(by simp at n)⟩⟩
  .obtain⟨out,rfl,s⟩:=A;have z:b.aA[i]?=c7 b.aA[i]:=c6 F;have w:=dd F;generalize b.aA[i]=f at z w;have T:=C.2 f w;have Y:=x.len f w;have I:o∈f.aw:=(F9 (x.perm f u w B)).mem_iff.2 W;obtain⟨p,S,D⟩:=OX I;have X:p<f.aH.length:=by have:=(dt.1 D).1;omega
   have t:f.aH[p]?=c7 f.aH[p]:=c6 X;generalize f.aH[p]=c at t;have ab:out.length<=24:=by have:=s.len;rw[ea] at this;omega
   dsimp only;unfold Fl;rw[aC,bn,z,aa,Bb (by show f.aw.length<=_;omega),S,aa,zK T,aa];dsimp only;rw[bn,t,aa,dk,t,aa];unfold Io;obtain⟨q,P,N⟩:=aaS e c g a l k K M;have L:wV LC (ak.mk e.ai e.af) c g a l k=c7 q:=P;rw[L,aa,aa];dsimp only;simp only[aa];have fin:∀d,(d=c\/∃h,og e c g a l k d h)->kz (λc d=>d=c\/∃h,og e c g a l k d h) (λ_=>False) o (b.aA.take (i+1)) (out++[ay.mk f.aw (f.aH.set p d)]):=λd G=>by
    rw[iE z];exact s.more ⟨p,c,d,D,t,G,rfl⟩
   rcases N with⟨m,V⟩ |⟨m,ad⟩
   .rw[m];simp only[aa,Int.reduceEq,decide_false,decide_true,cond_true,cond_false,ft,ei];rw[dm (by decide) (by omega),aa,aJ];exact ae ⟨_,rfl,fin _ (V.elim .inr .inl)⟩
   .rcases m with m |m |m
    .rw[m];simp only[aa,Int.reduceEq,decide_false,decide_true,cond_true,cond_false,ft,ei];exact ae ⟨by simp,rfl⟩
    .rw[m];simp only[aa,Int.reduceEq,decide_false,decide_true,cond_true,cond_false,ft,ei];exact ae ⟨by simp,rfl⟩
    .rw[m];simp only[aa,Int.reduceEq,decide_false,decide_true,cond_true,cond_false,ft,ei];rw[dm (by decide) (by omega),aa,aJ];refine ae ⟨_,rfl,?_⟩
     have:=fin c (.inl rfl);rw[ou t] at this;exact this
  .obtain⟨out,rfl,s⟩:=A;dsimp only;unfold Fl;rw[aG];rw[gy] at s;exact ae s
 .cases j with
  |inl j=>exact ae (.inr E)
  |inr j=>
   dsimp only[ei];refine aV (λ_=>ae (.inr ⟨by simp,rfl⟩)) (λH=>ae (.inl ⟨rfl,x,λn=>H ?_,E⟩))
   have n:j.2.2.2.2.2.2=[]:=n;rw[n];rfl
def swap_perm{c:Type}{a:List c}{i b:Nat}{d e:c}(h:a[i]?=c7 d)(j:a[b]?=c7 e):((a.set i e).set b d).Perm a:=by
 obtain⟨f,rfl⟩:=dt.1 h;obtain⟨g,rfl⟩:=dt.1 j;exact List.set_set_perm f g
def aaP(d:List ay)(x:∀l,l∈d->Sm l.aw)(B:d.length<=19):Ok (xn LC d 0 (d.length:Int)) λr=>r.Perm d:=by
 unfold xn;rw[aJ];refine aD (Q:=λr=>r.Perm d) ?_ λr j=>ae j
 refine oa (λb:List ay×Int=>b.1.Perm d/\1<=b.2) (λb=>(20 -b.2).toNat) _ (λb k=>?_) _ ⟨.refl _,by simp⟩
 obtain⟨aK,i⟩:=b;obtain⟨e,y⟩:=k;dsimp only at e y⊢;unfold Sx;refine aV (λs=>?_) (λ_=>ae e)
 refine aD (Q:=λr=>r.Perm d) ?_ λr j=>?_
 .refine oa (λb:List ay×Int=>b.1.Perm d/\0<=b.2/\b.2<(d.length:Int)) (λb=>b.2.toNat) _ (λb k=>?_) _ ⟨e,by show(0:Int)<=i;omega,s⟩
  obtain⟨c,a⟩:=b;obtain⟨e,t,u⟩:=k;dsimp only at e t u⊢;have C:=e.length_eq;unfold Mg
  by_cases p:0<a
  rotate_left
  .rw[aG p];exact ae e
  have h:c[a.toNat]?=c7 (c[a.toNat]'(by omega)):=c6 (by omega);have f:c[(a -1).toNat]?=c7 (c[(a -1).toNat]'(by omega)):=c6 (by omega);have o:=dd (show a.toNat<c.length by omega);generalize c[a.toNat]'(by omega)=m at h o;generalize c[(a -1).toNat]'(by omega)=g at f;have z:aj c a=c7 m:=by unfold aj;rw[if_pos (by omega)];exact h
  have w:aj c (a -1)=c7 g:=by unfold aj;rw[if_pos (by omega)];exact f
  have v:=x m (e.mem_iff.1 o);rw[aC p,aJ (n:=a -1),z,aa,h,aa,w,aa,f,aa];unfold IK;rw[PW v];simp only[aa];refine aV (λ_=>?_) (λ_=>ae e)
  have q:(a -1).toNat<(c.set a.toNat g).length:=by rw[dT];omega
  have A:aj (c.set a.toNat g) (a -1)=c7 ((c.set a.toNat g)[(a -1).toNat]):=qC (by omega) (by rw[dT];omega);rw[A,aa,c6 q,aa];refine ae ⟨⟨(swap_perm h f).trans e,by show 0<=a -1;omega,by show a -1<_;omega⟩,?_⟩
  show(a -1).toNat<a.toNat
  omega
 .rw[aJ];refine ae ⟨⟨j,by show 1<=i+1;omega⟩,?_⟩
  show(20 - (i+1)).toNat<(20 -i).toNat
  omega
def aoi(a:List ay)(i:∀d,d∈a->Sm d.aw)(c:a.length<=19):Ok (uv LC a) λr=>r.Perm a:=by
 unfold uv FQ JY GP Je;rw[pr (by decide) (cX (n:=19) c (by decide)),aa,aa];have g:bO (λb:List ay×Int×Int=>zB LC (a.length:Int) b.1 b.2.1 b.2.2) (a,0,20)=c7 (a,0):=fZ (by dsimp only;unfold zB;rw[aG]);rw[show LC.loop (λb:List ay×Int×Int=>zB LC (a.length:Int) b.1 b.2.1 b.2.2) (a,0,20)=_ from g,aa];dsimp only;obtain⟨r,h,e⟩:=aaP a i c;rw[h,aa];have f:bO (λb:Int=>KH LC (a.length:Int) b) 20=c7 ():=fZ (by unfold KH;rw[aG]);rw[f];simp only[aa];exact ae e
def j0(c d:Nat)(a:ay):Prop:=a.aH.length=c/\∀b,b∈a.aH->b.an.length=d
def Over(e:Nat)(d c:ay):Prop:=c.aw=d.aw/\∀(i:Nat) b a,d.aH[i]?=c7 b->c.aH[i]?=c7 a->b.aa0<=a.aa0/\∀p,0<=p->p<(e:Int)->fn a.an p<=fn b.an p
def Over.refl(np:Nat)(c:ay):Over np c c:=⟨rfl,λi x d h a=>by rw[h] at a;injection a with a;subst a;exact⟨ey _,λ_ _ _=>ey _⟩⟩
structure rZ (n np:Nat) (l out:List ay):Prop where
 a:∀w,w∈l->∃w',w'∈out/\Over np w w'
 b:∀Pr:aM->Prop,(∀x y,x.an.length=np->y.an.length=np->Pr x->Pr y->Pr (ib x y))->(∀w,w∈l->∀x,x∈w.aH->Pr x)->∀w',w'∈out->∀x,x∈w'.aH->Pr x
 c:∀w',w'∈out->j0 n np w'/\∃w,w∈l/\w'.aw=w.aw
 d:out.length<=l.length
 e:l≠[]->out≠[]
def oB(a b:ay):ay:=⟨a.aw,ef ib a.aH b.aH⟩
def acE{c b:aM}{a:Nat}(d:c.an.length=a)(e:b.an.length=a):(ib c b).an.length=a:=by
 show(ef min c.an b.an).length=a
 rw[ga];omega
def ake{c d:Nat}{a b:ay}(f:j0 c d a)(e:j0 c d b):j0 c d (oB a b):=by
 refine⟨by show(ef ib a.aH b.aH).length=c;rw[ga,f.1,e.1];omega,λj h=>?_⟩
 obtain⟨i,g,rfl⟩:=e5.1 (show j∈ef ib a.aH b.aH from h);rw[ga] at g;rw[hS];exact acE (f.2 _ (dd (by omega))) (e.2 _ (dd (by omega)))
def FB{d c:ay}{i:Nat}{b:aM}(a:(oB d c).aH[i]?=c7 b):∃f g,d.aH[i]?=c7 f/\c.aH[i]?=c7 g/\b=ib f g:=by
 have a:(ef ib d.aH c.aH)[i]?=c7 b:=a;obtain⟨h,e⟩:=dt.1 a;rw[ga] at h;rw[hS] at e;exact⟨_,_,c6 (by omega),c6 (by omega),e.symm⟩
def amz{n d:Nat}{u e b:ay}(m:j0 n d e)(l:j0 n d b)(t:e.aw=b.aw):(Over d u e->Over d u (oB e b))/\Over d b (oB e b):=by
 refine⟨λo=>⟨o.1,λi c w j g=>?_⟩,⟨t,λi c w j g=>?_⟩⟩
 .obtain⟨p,q,f,a,rfl⟩:=FB g;obtain⟨x,v⟩:=o.2 i c p j f;have k:=m.2 p (fC f);have h:=l.2 q (fC a);refine⟨by show c.aa0<=max p.aa0 q.aa0;omega,λr h0 s=>?_⟩
  rw[PL (k.trans h.symm) h0 (by omega)];have:=v r h0 s;omega
 .obtain⟨p,q,f,a,rfl⟩:=FB g;have k:=m.2 p (fC f);have h:=l.2 q (fC a);rw[j] at a;injection a with a
  subst a;refine⟨by show c.aa0<=max p.aa0 c.aa0;omega,λr h0 s=>?_⟩
  rw[PL (k.trans h.symm) h0 (by omega)];omega
def agQ{n g:Nat}{a b:ay}(v:n<=100)(u:g<=1000000)(e:j0 n g a)(d:j0 n g b):bO (λc:List aM×Int=>qR LC b.aH c.1 c.2) (a.aH,0)=c7 (ef ib a.aH b.aH):=by
 have t:(ef ib a.aH b.aH).length=n:=by rw[ga,e.1,d.1];omega
 have q:=nV (f:=λc:List aM×Int=>qR LC b.aH c.1 c.2) n (λi=>((ef ib a.aH b.aH).take i++a.aH.drop i,(i:Int))) (ef ib a.aH b.aH) (λi l=>?_) (by
  dsimp only;unfold qR;rw[aG (by rw[d.1];omega),hM (by omega),ie (by rw[e.1];omega),p0])
 .simpa using q
 .dsimp only;unfold qR;have h:i<a.aH.length:=by rw[e.1];exact l
  have k:i<b.aH.length:=by rw[d.1];exact l
  have j:((ef ib a.aH b.aH).take i).length=i:=by rw[ea,t];omega
  have r:((ef ib a.aH b.aH).take i++a.aH.drop i)[i]?=c7 a.aH[i]:=by
   rw[eH (by omega),j,j7,gb h];rfl
  have s:=e.2 _ (dd h);have o:=d.2 _ (dd k);rw[aC (by rw[d.1];omega),bn,r,aa,bn,c6 k,aa,join_eq (s.trans o.symm) (cX (n:=g) (by omega) u),aa,aJ];have p:(ef ib a.aH b.aH)[i]?=c7 (ib a.aH[i] b.aH[i]):=by
   rw[c6 (by omega),hS]
  have m:((ef ib a.aH b.aH).take i++a.aH.drop i).set (i:Int).toNat (ib a.aH[i] b.aH[i])=(ef ib a.aH b.aH).take (i+1)++a.aH.drop (i+1):=by
   rw[dk,k8 _ _ (by omega),j,j7,gb h,hX,iE p,hB]
   rfl
  dsimp only;rw[m]
  rfl
def QQ{n np:Nat}(M:n<=100)(S:np<=1000000)(z:List ay)(a:∀c,c∈z->j0 n np c/\Sm c.aw)(W:z.length<=19):Ok (yK LC z) (rZ n np z):=by
 unfold yK;refine aD (aoi z (λc g=>(a c g).2) W) λo r=>?_
 have an:=r.length_eq;have ah:∀c,c∈o->j0 n np c/\Sm c.aw:=λc g=>a c (r.mem_iff.1 g)
 have U:∀c,j0 n np c->Sm c.aw->tz c:=λc e I=>⟨I,cX (n:=100) (by rw[e.1];exact M) (by decide),λw s=>cX (n:=np) (by rw[e.2 w s];omega) S⟩
 refine WI (Q:=rZ n np o) ?_ λout e=>⟨λc g=>e.a c (r.mem_iff.2 g),λx m l=>e.b x m λc g=>l c (r.mem_iff.1 g),λJ B=>?_,by have:=e.d;omega,λV=>e.e λag=>V ?_⟩
 rotate_left
 .obtain⟨m,c,l,af⟩:=e.c J B;exact⟨m,c,r.mem_iff.1 l,af⟩
 .rw[ag] at r;exact List.nil_perm.1 r
 refine di o.length (λi F=>∃out,F=(out,(i:Int))/\rZ n np (o.take i) out/\∀c,c∈out->Sm c.aw) _ (λi F R K=>?_) (λF K=>?_) _ ⟨[],rfl,⟨λc g=>(by simp at g),λ_ _ _ J B=>(by cases B),λJ B=>(by cases B),by simp,λe=>(by simp at e)⟩,λc g=>(by cases g)⟩
 .obtain⟨out,rfl,h,y⟩:=K;have g:o[i]?=c7 o[i]:=c6 R;have N:=dd R;generalize o[i]=c at g N;obtain⟨t,L⟩:=ah c N;have am:out.length<=19:=by have:=h.d;rw[ea] at this;omega
  dsimp only;unfold lZ;rw[aC,bn,g,aa,iE g,aJ (n:=(i:Int)+1)];have new:Ok ((oM LC c).bind λak=>(bj 48 out [ak]).bind λout=>c7 (m0 (out,(i:Int)+1))) λd:(List ay×Int)⊕List ay=>match d with
   | .inl T=>∃out,T=(out,((i+1:Nat):Int))/\rZ n np (o.take i++[c]) out/\∀c,c∈out->Sm c.aw
   | .inr b=>rZ n np o b:=by
   rw[Tz (U c t L),aa,dm (by decide) (by omega),aa];refine ae ⟨_,rfl,⟨λu a=>?_,λx m l u a w s=>?_,λu a=>?_,?_,λ_=>by simp⟩,λu a=>?_⟩
   .rcases e4.1 a with a |a
    .obtain⟨v,f,j⟩:=h.a u a;exact⟨v,by simp[f],j⟩
    .rw[e0] at a;subst a;exact⟨u,by simp,Over.refl _ _⟩
   .rcases e4.1 a with a |a
    .exact h.b x m (λv A=>l v (by simp[A])) u a w s
    .rw[e0] at a;subst a;exact l u (by simp) w s
   .rcases e4.1 a with a |a
    .obtain⟨v,f,j,H⟩:=h.c u a;exact⟨v,f,by simp[j],H⟩
    .rw[e0] at a;subst a;exact⟨t,u,by simp,rfl⟩
   .have:=h.d;simp only[eo,ez,hL] at this⊢;omega
   .rcases e4.1 a with a |a
    .exact y u a
    .rw[e0] at a;subst a;exact L
  rcases List.eq_nil_or_concat out with X |⟨init,d,k⟩
  .subst X;rw[aG (by simp),aa];exact WI new λd k=>by cases d <;> exact k
  .rw[List.concat_eq_append] at k;have P:out.length=init.length+1:=by rw[k];simp
   have Y:aj out (c3 c4 ((out.length:Int) -1))=c7 d:=by
    rw[aJ,P,show((init.length+1:Nat):Int) -1=(init.length:Int) by omega];exact jg (rest:=[]) k
   have C:d∈out:=by rw[k];simp
   obtain⟨D,ad,ab,ac⟩:=h.c d C;rw[aC,Y,aa,GV (by show d.aw.length<=_;have:=jZ (y d C);omega),aa];refine aV (λI=>?_) (λ_=>WI new λd k=>by cases d <;> exact k)
   rw[aa];refine c8 (agQ M S D t) ?_
   have Z:out.set (c3 c4 ((out.length:Int) -1)).toNat ({d with aH:=ef ib d.aH c.aH}:ay)=init++[oB d c]:=by
    rw[aJ,P,show(((init.length+1:Nat):Int) -1).toNat=init.length by omega,k,k8 _ _ (h8 _),j7]
    rfl
   rw[Z];have O:=λu=>amz (u:=u) D t I
   have E:∀{u:ay},u∈init++[oB d c]->u∈init\/u=oB d c:=λe=>by
    rcases e4.1 e with e |e
    .exact .inl e
    .exact .inr (by simpa using e)
   have G:∀u,u∈init->u∈out:=λu e=>by rw[k];simp[e]
   refine ae ⟨_,rfl,⟨λu a=>?_,λx m l u a w s=>?_,λu a=>?_,?_,λ_=>by simp⟩,λu a=>?_⟩
   .rcases e4.1 a with a |a
    .obtain⟨v,f,j⟩:=h.a u a;rw[k] at f;rcases e4.1 f with f |f
     .exact⟨v,by simp[f],j⟩
     .rw[e0] at f;subst f;exact⟨oB v c,by simp,(O u).1 j⟩
    .rw[e0] at a;subst a;exact⟨oB d u,by simp,(O u).2⟩
   .rcases E a with a |rfl
    .exact h.b x m (λv A=>l v (by simp[A])) u (G u a) w s
    .obtain⟨al,ai⟩:=hP.1 s;obtain⟨p,q,f,j,rfl⟩:=FB ai;exact m p q (D.2 p (fC f)) (t.2 q (fC j)) (h.b x m (λv A=>l v (by simp[A])) d C p (fC f)) (l c (by simp) q (fC j))
   .rcases E a with a |rfl
    .obtain⟨v,f,j,H⟩:=h.c u (G u a);exact⟨v,f,by simp[j],H⟩
    .exact⟨ake D t,ad,by simp[ab],ac⟩
   .have:=h.d;simp only[eo,ez,hL] at this⊢;omega
   .rcases E a with a |rfl
    .exact y u (G u a)
    .exact y d C
 .obtain⟨out,rfl,h,y⟩:=K;dsimp only;unfold lZ;rw[aG];rw[gy] at h;exact ae h
def kH(i b:Int)(a:List aM):List aM:=match a[i.toNat]? with |some c=>if b<c.aa0\/2147483648<b then a else a.set i.toNat ⟨b,c.an⟩ |none=>a
def rU(i c a:Int)(b:ay):ay:=⟨gL i c b.aw,kH c a (kH i a b.aH)⟩
def ID{i b:Int}{a:List aM}:(kH i b a).length=a.length:=by
 unfold kH
 split
 .split
  .rfl
  .rw[dT]
 .rfl
def F3{i d:Int}{j:List aM}{h:Nat}{b:aM}(a:(kH i d j)[h]?=c7 b):∃e,j[h]?=c7 e/\b.an=e.an/\e.aa0<=b.aa0/\(b.aa0=e.aa0\/b.aa0=d)/\((h:Int)=i->d<=2147483648->d<=b.aa0):=by
 unfold kH at a;cases c:j[i.toNat]? with
 |none=>
  rw[c] at a;refine⟨b,a,rfl,ey _,.inl rfl,λf=>?_⟩
  subst f;rw[dk] at c;rw[c] at a;cases a
 |some k=>
  rw[c] at a;dsimp only at a
  split at a
  .rename_i l;refine⟨b,a,rfl,ey _,.inl rfl,λf m=>?_⟩
   subst f;rw[dk] at c;rw[c] at a;injection a with a
   subst a;omega
  .rename_i l;rw[hI] at a
   split at a
   .rename_i g
    split at a
    .injection a with a
     subst a;refine⟨k,by rw[<-g];exact c,rfl,by show k.aa0<=d;omega,.inr rfl,λ_ _=>ey _⟩
    .cases a
   .rename_i g;exact⟨b,a,rfl,ey _,.inl rfl,λf=>absurd (by omega) g⟩
def NG{i c:Int}{a:List aM}(l:0<=i/\i<(a.length:Int))(n:∀b,b∈a->Sm b.an){m:Type}{j:List aM->Option m}:((aj a i).bind λ_=>(a[i.toNat]?).bind λk=>(xc LC k c).bind λh=>
 (bif c5 (h.2=0) then(aj a i).bind λ_=>(a[i.toNat]?).bind λ_=>c7 (a.set i.toNat h.1) else c7 a).bind j)=j (kH i c a):=by
 have e:a[i.toNat]?=c7 (a[i.toNat]'(by omega)):=c6 (by omega);have f:=dd (show i.toNat<a.length by omega);unfold kH;generalize a[i.toNat]'(by omega)=b at e f;have g:aj a i=c7 b:=by unfold aj;rw[if_pos l.1];exact e
 rw[g,e];simp only[aa];rw[acF (n b f),aa]
 by_cases d:c<b.aa0\/2147483648<c
 .rw[if_pos d,if_pos d];rfl
 .rw[if_neg d,if_neg d];rfl
structure AY (m:ak) (i j t:Int) (n np:Nat) (b b':aL):Prop where
 v:mz m b
 num:b'.aA.length<=24
 ix:(0<=i/\i<(n:Int))/\(0<=j/\j<(n:Int))/\i≠j/\0<=t/\t<=2147483648
 ex:∃l,rZ n np l b'.aA/\l≠[]/\(∀w,w∈b.aA->w∈l)/\(∀w x y,w∈b.aA->w.aH[i.toNat]?=c7 x->w.aH[j.toNat]?=c7 y->(∃p,p∈dz x t/\p∈dz y t)->rU i j t w∈l)/\∀u,u∈l->u∈b.aA\/∃w,w∈b.aA/\u=rU i j t w
def RM(T:ak)(b:aL)(i c h:Int){n np:Nat}(a2:n<=3)(aZ:np<=64)(F:gF b)(C:∀a,a∈b.aA->j0 n np a/\a.aw.length=n):Ok (yY LC T b i c h) λq=>(q.2=0/\AY T i c h n np b q.1)\/(q.2≠0/\q.1=b):=by
 unfold yY;refine aD (vB T b F) λv aE=>?_
 rw[de];refine dy (λaz=>?_) (λ_=>ae (.inr ⟨by simp,rfl⟩))
 have R:=aE az;have a1:=R.num;have h0:b.aA[0]?=c7 (b.aA[0]'(by omega)):=c6 (by omega);have H:=dd (show 0<b.aA.length by omega);generalize b.aA[0]'(by omega)=V at h0 H;have af:aj b.aA 0=c7 V:=by rw[show(0:Int)=((0:Nat):Int) from rfl,bn];exact h0
 have aH:=(C V H).2;have aU:=R.Mp H (by omega);rw[af,aa,aH,aJ (n:=(n:Int) -1),cF,aa,cF,aa,fh (fh rfl),aa];refine aV (λ_=>ae (.inr ⟨by simp,rfl⟩)) (λa0=>?_)
 rw[cF,aa,de];refine aV (λaK=>?_) (λ_=>ae (.inr ⟨by simp,rfl⟩))
 have U:0<=i/\i<(n:Int):=by omega
 have B:0<=c/\c<(n:Int):=by omega
 have ax:i≠c:=by omega
 unfold Ke;rw[pr (by decide) F.1,aa];refine aD (Q:=λe=>e.length<=12/\(∀a,a∈b.aA->a∈e)/\(∀a k l,a∈b.aA->a.aH[i.toNat]?=c7 k->a.aH[c.toNat]?=c7 l->(∃p,p∈dz k h/\p∈dz l h)->rU i c h a∈e)/\∀g,g∈e->g∈b.aA\/∃a,a∈b.aA/\g=rU i c h a) ?_ λe ad=>?_
 .refine di b.aA.length (λm s=>∃e,s=(e,(m:Int))/\e.length<=6+m/\(∀a,a∈b.aA->a∈e)/\(∀a k l,a∈b.aA.take m->a.aH[i.toNat]?=c7 k->a.aH[c.toNat]?=c7 l->(∃p,p∈dz k h/\p∈dz l h)->rU i c h a∈e)/\∀g,g∈e->g∈b.aA\/∃a,a∈b.aA/\g=rU i c h a) _ (λm s A O=>?_) (λs O=>?_) _ ⟨b.aA,rfl,by omega,λa j=>j,λa k l j=>(by simp at j),λg j=>.inl j⟩
  .obtain⟨e,rfl,ar,w,t,D⟩:=O;have M:b.aA[m]?=c7 b.aA[m]:=c6 A;have E:=dd A;generalize b.aA[m]=a at M E;have u:=F.2 a E;obtain⟨ao,a4⟩:=C a E;have a5:=ao.1;have J:a.aH[i.toNat]?=c7 (a.aH[i.toNat]'(by omega)):=c6 (by omega);have K:a.aH[c.toNat]?=c7 (a.aH[c.toNat]'(by omega)):=c6 (by omega);have W:=dd (show i.toNat<a.aH.length by omega);have Y:=dd (show c.toNat<a.aH.length by omega);generalize a.aH[i.toNat]'(by omega)=k at J W;generalize a.aH[c.toNat]'(by omega)=l at K Y;have aB:aj a.aH i=c7 k:=by unfold aj;rw[if_pos U.1];exact J
   have aN:aj a.aH c=c7 l:=by unfold aj;rw[if_pos B.1];exact K
   dsimp only;unfold H9;rw[aC,bn,M,aa,aB,aa,aN,aa,Zn (u.fr k W) (u.fr l Y),aa,de,aJ (n:=(m:Int)+1),iE M]
   by_cases S:∃p,p∈dz k h/\p∈dz l h
   rotate_left
   .rw[aG S,aa];refine ae ⟨e,rfl,by omega,w,λg P N d r o y=>?_,D⟩
    rcases e4.1 d with d |d
    .exact t g P N d r o y
    .rw[e0] at d;subst d;rw[J] at r;rw[K] at o;injection r with r;injection o with o
     subst r o;exact absurd y S
   rw[aC S,Zo u,aa];have G:a.aw[i.toNat]?=c7 (a.aw[i.toNat]'(by omega)):=c6 (by omega);have I:a.aw[c.toNat]?=c7 (a.aw[c.toNat]'(by omega)):=c6 (by omega);have L:gL i c a.aw=(a.aw.set i.toNat (a.aw[c.toNat]'(by omega))).set c.toNat (a.aw[i.toNat]'(by omega)):=by unfold gL;rw[G,I]
   generalize a.aw[i.toNat]'(by omega)=am at G L;generalize a.aw[c.toNat]'(by omega)=x at I L;have al:aj a.aw i=c7 am:=by unfold aj;rw[if_pos U.1];exact G
   have au:aj a.aw c=c7 x:=by unfold aj;rw[if_pos B.1];exact I
   have ag:c.toNat<(a.aw.set i.toNat x).length:=by rw[dT];omega
   have aT:aj (a.aw.set i.toNat x) c=c7 ((a.aw.set i.toNat x)[c.toNat]):=qC B.1 (by rw[dT];omega);dsimp only;rw[au,aa,I,aa,al,aa,G,aa,aa,aa,aT,aa,c6 ag,aa];have aw:bO (λs:List aM×Int=>tC LC i c h s.1 s.2) (a.aH,0)=c7 (kH c h (kH i h a.aH)):=by
    refine akO (f:=λaO aR=>tC LC i c h aO aR) (λb e=>if b then kH c h e else kH i h e) a.aH ?_ ?_ (λs=>?_)
    .unfold tC;rw[aC (by decide),show aj ([i,c]:List Int) 0=c7 i from rfl,aa];refine(NG (by omega) u.fr).trans ?_
     rfl
    .simp only[hY,if_false,if_true];unfold tC;rw[aC (by decide),show aj ([i,c]:List Int) 1=c7 c from rfl,aa];refine(NG (by rw[ID];omega) (λz ai=>?_)).trans ?_
     .obtain⟨q,ap⟩:=hP.1 ai;obtain⟨z0,aA,aQ,_⟩:=F3 ap;rw[aQ];exact u.fr z0 (fC aA)
     .rfl
    .unfold tC;rfl
   rw[aw];simp only[aa];rw[dm (by decide) (by omega),aa,aa, <-L];refine ae ⟨_,rfl,by simp;omega,λg j=>by simp[w g j],λg P N d r o y=>?_,λg d=>?_⟩
   .rcases e4.1 d with d |d
    .exact List.mem_append_left _ (t g P N d r o y)
    .rw[e0] at d;subst d;exact List.mem_append_right _ (by simp[rU])
   .rcases e4.1 d with d |d
    .exact D g d
    .rw[e0] at d;exact .inr ⟨a,E,d⟩
  .obtain⟨e,rfl,ar,w,t,D⟩:=O;dsimp only;unfold H9;rw[aG];rw[gy] at t;exact ae ⟨by omega,w,t,D⟩
 .obtain⟨a6,Z,ay,ab⟩:=ad;have aS:∀a,a∈e->j0 n np a/\Sm a.aw:=λg d=>by
   rcases ab g d with j |⟨a,j,rfl⟩
   .exact⟨(C g j).1,(F.2 g j).tg⟩
   .obtain⟨X,aX⟩:=C a j;refine⟨⟨?_,λk aP=>?_⟩,?_⟩
    .show(kH c h (kH i h a.aH)).length=n
     rw[ID,ID];exact X.1
    .obtain⟨m,A⟩:=hP.1 aP;obtain⟨aY,av,aF,_⟩:=F3 A;obtain⟨aI,ah,an,_⟩:=F3 av;rw[aF,an];exact X.2 aI (fC ah)
    .show(gL i c a.aw).length<=1000000
     unfold gL
     split
     .rw[dT,dT];omega
     .omega
  refine aD (QQ (by omega) (by omega) e aS (by omega)) λout aq=>?_
  refine aV (λ_=>ae (.inr ⟨by simp,rfl⟩)) (λa3=>ae (.inl ⟨rfl,R,by show out.length<=24;omega,⟨U,B,ax,aK⟩,e,aq,λac=>?_,Z,ay,ab⟩))
  have:=Z V H;rw[ac] at this;cases this
def gG(h:aM->aM->Prop)(g d:List ay):Prop:=d.length=g.length/\∀(i:Nat) b a,g[i]?=c7 b->d[i]?=c7 a->a.aw=b.aw/\a.aH.length=b.aH.length/\∀(f:Nat) e c,b.aH[f]?=c7 e->a.aH[f]?=c7 c->h e c
def gG.snoc{m:aM->aM->Prop}{l t:List ay}{j d:ay}(h:gG m l t)(u:d.aw=j.aw)(y:d.aH.length=j.aH.length)(w:∀(k:Nat) x s,j.aH[k]?=c7 x->d.aH[k]?=c7 s->m x s):gG m (l++[j]) (t++[d]):=by
 refine⟨by simp[h.1],λi o n a c=>?_⟩
 have A:=h.1
 by_cases hi:i<l.length
 .rw[h6 hi] at a;rw[h6 (by omega)] at c;exact h.2 i o n a c
 .rw[eH (by omega)] at a;rw[eH (by omega),A] at c;have e:i -l.length=0:=by
   have:=(dt.1 a).1;simp at this;omega
  rw[e] at a c;have a:j=o:=by simpa using a
  have c:d=n:=by simpa using c
  subst a c;exact⟨u,y,w⟩
def gG.nil{a:aM->aM->Prop}:gG a [] []:=⟨rfl,λi d c h=>by simp at h⟩
def gG.back{m:aM->aM->Prop}{d l:List ay}(h:gG m d l){a:ay}(n:a∈l):∃c,c∈d/\a.aw=c.aw/\a.aH.length=c.aH.length/\∀(k:Nat) x j,c.aH[k]?=c7 x->a.aH[k]?=c7 j->m x j:=by
 obtain⟨i,hi,rfl⟩:=e5.1 n;have e:i<d.length:=by rw[<-h.1];exact hi
 exact⟨d[i],dd e,h.2 i _ _ (c6 e) (c6 hi)⟩
def Gq(j:ak)(b:aL)(m:Int)(Y:gF b)(T:Fit j.ai):Ok (kW LC j b m) λq=>(q.2=0/\cP j/\1<=b.aA.length/\b.aA.length<=24/\gG (λd e=>mP j d m e) b.aA q.1.aA)\/(q.2≠0/\q.1=b):=by
 unfold kW;rw[ko,aa,cF,aa,lA,fh rfl,aa];refine aV (λ_=>ae (.inr ⟨by simp,rfl⟩)) (λx=>?_)
 have ab:cP j:=dv λy=>x (.inl y)
 have y:1<=(b.aA.length:Int)/\(b.aA.length:Int)<=24:=dv λy=>x (.inr y)
 refine aD (Q:=λa=>match a with
  | .inl a=>a.2≠0/\aL.mk a.1=b
  | .inr a=>a.2=0->gG (λd e=>mP j d m e) b.aA a.1) ?_ λa H=>?_
 .refine di b.aA.length (λi c=>∃out p,c=(out,p,(i:Int))/\out.length=i/\(p=0->gG (λd e=>mP j d m e) (b.aA.take i) out)) _ (λi c M o=>?_) (λc o=>?_) _ ⟨[],0,rfl,rfl,λ_=>gG.nil⟩
  .obtain⟨out,p,rfl,I,z⟩:=o;have B:b.aA[i]?=c7 b.aA[i]:=c6 M;have K:=dd M;generalize b.aA[i]=h at B K;have J:=Y.2 h K;have ad:=jZ J.wh;dsimp only;unfold Ka;rw[aC,bn,B,aa,zK J,aa];dsimp only;have U:Ok (bO (λc:List aM×Int×Int=>An LC h j m b c.1 c.2.1 c.2.2) (h.aH,p,0)) λa=>match a with
    | .inl a=>a.2=6/\a.1=b.aA
    | .inr a=>a.1.length=h.aH.length/\(a.2=0->p=0/\∀(g:Nat) d e,h.aH[g]?=c7 d->a.1[g]?=c7 e->mP j d m e):=by
    refine di h.aH.length (λg c=>c.2.2=(g:Int)/\c.1.length=h.aH.length/\(c.2.1=0->p=0/\∀(n:Nat) d e,n<g->h.aH[n]?=c7 d->c.1[n]?=c7 e->mP j d m e)) _ (λg c F o=>?_) (λc o=>?_) _ ⟨rfl,rfl,λx=>⟨x,λn d e N=>by omega⟩⟩
    .obtain⟨aK,l,R⟩:=c;obtain⟨rfl,u,s⟩:=o;dsimp only at u s⊢;have t:h.aH[g]?=c7 h.aH[g]:=c6 F;generalize h.aH[g]=d at t;unfold An;rw[aC,bn,t,aa];refine aD (Pd j d m T) λq w=>?_
     refine aV (λA=>ae ⟨A,rfl⟩) (λA=>?_)
     have D:(bif c5 (l=0) then c7 q.2 else c7 l)=c7 (if l=0 then q.2 else l):=by
      by_cases k:l=0
      .rw[aC k,if_pos k]
      .rw[aG k,if_neg k]
     have E:g<aK.length:=by omega
     rw[D,aa,bn,c6 E,aa,dk,c6 E,aa,aJ];refine ae ⟨rfl,by rw[dT];exact u,λf=>?_⟩
     dsimp only at f⊢;have k:l=0:=by
      by_cases k:l=0
      .exact k
      .rw[if_neg k] at f;exact f
     rw[if_pos k] at f;obtain⟨C,N⟩:=s k;refine⟨C,λn Z W ac v r=>?_⟩
     by_cases L:n=g
     .subst L;rw[gv E] at r;rw[t] at v;injection v with v
      injection r with r
      subst v r;rcases w with⟨_,w⟩ |⟨w,_⟩
      .exact w
      .omega
     .rw[hq (λD=>L D.symm)] at r;exact N n Z W (by omega) v r
    .obtain⟨aK,l,R⟩:=c;obtain⟨rfl,u,s⟩:=o;dsimp only at u s⊢;unfold An;rw[aG];refine ae ⟨u,λf=>⟨(s f).1,λg d e t P=>(s f).2 g d e (dt.1 t).1 t P⟩⟩
   obtain⟨a,O,G⟩:=U;rw[O];simp only[aa];cases a with
   |inl a=>
    obtain⟨A,S⟩:=G;dsimp only[ft,ei];rw[aa];dsimp only[ft,ei];refine ae ⟨by show a.2≠0;omega,?_⟩
    show aL.mk a.1=b
    rw[S]
   |inr a=>
    obtain⟨X,V⟩:=G;dsimp only[ft,ei];rw[aa];dsimp only[ft,ei];rw[dm (by decide) (by omega),aa,aJ];refine ae ⟨_,_,rfl,by simp[I],λf=>?_⟩
    obtain⟨C,F⟩:=V f;rw[iE B];exact(z C).snoc rfl X F
  .obtain⟨out,p,rfl,I,z⟩:=o;dsimp only;unfold Ka;rw[aG];rw[gy] at z;exact ae z
 .cases a with
  |inl a=>exact ae (.inr H)
  |inr a=>
   dsimp only[ei];refine aV (λf=>ae (.inr ⟨f,rfl⟩)) (λf=>ae (.inl ⟨rfl,ab,by omega,by omega,H (ej.1 f)⟩))
structure ki (m:ak) (l:List Int) (bm:ak):Prop where
 fN:cP m
 fy:cj 0 ((m.af.length:Int) -1) l
 pl:bm.ai=m.ai
 len:bm.af.length=m.af.length
 off:∀(i:Nat) r r',m.af[i]?=c7 r->bm.af[i]?=c7 r'->r'=r/\(i:Int)∉l\/r'={r with jy:=false}/\(i:Int)∈l
def Nw(d:ak)(b:List Int)(C:Fit b)(F:Fit d.af):Ok (sW LC d b) λq=>(q.2=0/\ki d b q.1)\/(q.2≠0/\(cP d->¬cj 0 ((d.af.length:Int) -1) b)/\q.1=⟨[],[]⟩):=by
 unfold sW;rw[ko,aa,de];refine aV (λk=>?_) (λv=>ae (.inr ⟨by simp,λh=>absurd h v,rfl⟩))
 have H:=k.2.1;rw[aJ,kw _ _ _ C,aa,de];refine aV (λm=>?_) (λv=>ae (.inr ⟨by simp,λ_=>v,rfl⟩))
 rw[mV (cX k.1 (by decide)),aa,nk (cX k.2.1 (by decide)),aa];have G:=m.len (by omega);refine aD (Q:=λw=>w.length=d.af.length/\∀(i:Nat) r c,d.af[i]?=c7 r->w[i]?=c7 c->c=r/\(i:Int)∉b\/c={r with jy:=false}/\(i:Int)∈b) ?_ λw z=>ae (.inl ⟨rfl,k,m,rfl,z.1,z.2⟩)
 refine di b.length (λg e=>e.2=(g:Int)/\e.1.length=d.af.length/\∀(i:Nat) r c,d.af[i]?=c7 r->e.1[i]?=c7 c->c=r/\(i:Int)∉b.take g\/c={r with jy:=false}/\(i:Int)∈b.take g) _ (λg e B t=>?_) (λe t=>?_) _ ⟨rfl,rfl,λi r c h a=>.inl ⟨by rw[h] at a;injection a with a;exact a.symm,by simp⟩⟩
 .obtain⟨aK,D⟩:=e;obtain⟨rfl,j,f⟩:=t;dsimp only at j f⊢;have s:b[g]?=c7 b[g]:=c6 B;have A:=m.mem (dd B);generalize b[g]=p at s A;have y:p.toNat<aK.length:=by omega
  have x:aj aK p=c7 (aK[p.toNat]):=qC A.1 (by omega);have l:aK[p.toNat]?=c7 (aK[p.toNat]):=c6 y;generalize aK[p.toNat]=E at x l;unfold Hb;rw[aC,bn,s,aa,x,aa,l,aa,aJ];refine ae ⟨rfl,by rw[dT];exact j,λi r c h a=>?_⟩
  rw[iE s];dsimp only at a;rw[hI] at a
  by_cases u:p.toNat=i
  .rw[if_pos u,if_pos y] at a;injection a with a
   subst a;rw[u] at l;refine .inr ⟨?_,by simp;right;omega⟩
   rcases f i r E h l with⟨rfl,_⟩ |⟨rfl,_⟩ <;> rfl
  .rw[if_neg u] at a;rcases f i r c h a with⟨o,n⟩ |⟨o,n⟩
   .exact .inl ⟨o,by simp[n];omega⟩
   .exact .inr ⟨o,by simp[n]⟩
 .obtain⟨aK,D⟩:=e;obtain⟨rfl,j,f⟩:=t;dsimp only at j f⊢;unfold Hb;rw[aG];rw[gy] at f;exact ae ⟨j,f⟩
def acx(a:ak)(b:List Int)(h:Fit b)(m:Fit a.af):Ok (vU LC a b) λq=>(q.2.2=0/\ki a b ⟨q.1,q.2.1⟩)\/(q.2.2≠0/\(cP a->¬cj 0 ((a.af.length:Int) -1) b)/\q.1=[]/\q.2.1=[]):=by
 have l:vU LC a b=(sW LC a b).bind λq=>c7 (q.1.ai,q.1.af,q.2):=by
  unfold vU sW;rw[ko,aa,aa]
  by_cases d:cP a
  rotate_left
  .rw[decide_eq_false d];rfl
  rw[decide_eq_true d];have o:=d.2.1;rw[aJ,kw _ _ _ h,aa,aa]
  by_cases g:cj 0 ((a.af.length:Int) -1) b
  rotate_left
  .rw[decide_eq_false g];rfl
  rw[decide_eq_true g];simp only[fe,cond_false];rw[mV (cX d.1 (by decide)),aa,aa,nk (cX d.2.1 (by decide)),aa,aa];show((bO (λc:List aZ×Int=>Bp LC b c.1 c.2) (a.af,0)).bind λe=>c7 (a.ai,e,(0:Int)))=((bO (λc:List aZ×Int=>Bp LC b c.1 c.2) (a.af,0)).bind λe=>c7 (ak.mk a.ai e,(0:Int))).bind λq=>c7 (q.1.ai,q.1.af,q.2)
  cases bO (λc:List aZ×Int=>Bp LC b c.1 c.2) (a.af,0) <;> rfl
 rw[l];refine aD (Nw a b h m) λq n=>ae ?_
 rcases n with j |⟨i,k,f⟩
 .exact .inl j
 .exact .inr ⟨i,k,by rw[f],by rw[f]⟩
structure rI (bm:ak) (t:Int) (x y:aM):Prop where
 new:jK bm y
 time:y.aa0=t
 wt:x.aa0<=t/\t<=2147483648
 le:∀p,0<=p->p<(bm.ai.length:Int)->fn x.an p<=t->fn y.an p<=fn x.an p
def apC{bm:ak}{x:aM}{t:Int}(L:x.an.length=bm.ai.length)(E:∀v,v∈x.an->fD v)(A:cP bm):Ok (CA LC bm x t) λq=>(q.2=0/\rI bm t x q.1)\/q.2≠0:=by
 have K:=A.1;unfold CA;rw[B6 (by omega),aa,Az (cX (n:=64) (by omega) (by decide)),aa];have I:(ec x.an.length (1099511627776:Int)).length=x.an.length:=e6;have w:∀p,p∈dz x t->0<=p/\p<(x.an.length:Int):=λp f=>by have:=Sq.1 f;exact⟨this.1,this.2.1⟩
 have J:(dz x t).length<=x.an.length:=pQ;refine aD (Q:=λk=>k.length=x.an.length/\(∀v,v∈k->fD v)/\∀p,p∈dz x t->fn k p=fn x.an p) ?_ λk H=>?_
 .refine di (dz x t).length (λe c=>c.2=(e:Int)/\c.1.length=x.an.length/\(∀v,v∈c.1->fD v)/\∀b p,b<e->(dz x t)[b]?=c7 p->fn c.1 p=fn x.an p) _ (λe c y r=>?_) (λc r=>?_) _ ⟨rfl,I,λv i=>.inr (gx i),λb p o=>by omega⟩
  .obtain⟨aK,B⟩:=c;obtain⟨rfl,h,g,j⟩:=r;dsimp only at h g j⊢;have f:(dz x t)[e]?=c7 (dz x t)[e]:=c6 y;have d:=w _ (dd y);generalize (dz x t)[e]=p at f d;unfold JO;rw[aC,bn,f,aa,gH d.1 d.2,aa,gH (l:=aK) d.1 (by omega),aa,iD (l:=aK) d.1 (by omega),aa,aJ];have C:=λq a=>wy (l:=aK) (p:=p) (q:=q) (x:=fn x.an p) d.1 (by omega) a
   refine ae ⟨rfl,by rw[dT];exact h,λv i=>?_,λb q o a=>?_⟩
   .rcases ev i with i |rfl
    .exact g v i
    .exact E _ (oR d.1 d.2)
   .dsimp only;have G:=w q (fC a);rw[C q G.1]
    split
    .rename_i s;rw[s]
    .rename_i s
     by_cases z:b=e
     .subst z;rw[f] at a;injection a with a;exact absurd a.symm s
     .exact j b q (by omega) a
  .obtain⟨aK,B⟩:=c;obtain⟨rfl,h,g,j⟩:=r;dsimp only at h g j⊢;unfold JO;rw[aG];refine ae ⟨h,g,λp f=>?_⟩
   obtain⟨b,o,rfl⟩:=e5.1 f;exact j b _ o (c6 o)
 .rw[acr];refine aD (Pd bm ⟨x.aa0,k⟩ t (by show bm.ai.length<=_;omega)) λq a=>ae ?_
  rcases a with⟨h0,m⟩ |⟨h0,_⟩
  .refine .inl ⟨h0,m.new,m.time,m.wt,λp u F D=>?_⟩
   have:=m.le p u F;rw[H.2.2 p (Sq.2 ⟨u,by omega,D⟩)] at this;exact this
  .exact .inr (by show q.2≠0;omega)
def Yj{l:List ay}{a:Int}(h:Fit l)(g:∀d,d∈l->Fit d.aH):AL LC l a=c7 (l.any λd=>d.aH.any λe=>c5 (a<e.aa0)):=by
 unfold AL Jm;have:=fF (l:=l) (P:=λc=>AP LC c a) (p:=λd=>d.aH.any λe=>c5 (a<e.aa0)) (f:=λb=>Jx LC l a b) h (λc i=>by
  unfold AP JC Gk;have:=fF (l:=c.aH) (P:=λc=>Jb LC c a) (p:=λe=>c5 (a<e.aa0)) (f:=λb=>Gr LC c.aH a b) (g c i) (λk j=>rfl) (λb=>rfl);rw[show(LC.loop (λb=>Gr LC c.aH a b) 0).bind _=_ from this,aa,gm]
  rfl) (λb=>rfl)
 rw[show(LC.loop (λb=>Jx LC l a b) 0).bind _=_ from this,aa,gm]
structure Ff (m:ak) (b:aL) (l:List Int) (t:Int) (n np:Nat) (b':aL):Prop where
 v:mz m b
 ex:∃bm lw,ki m l bm/\gG (λx y=>rI bm t x y) b.aA lw/\rZ n np lw b'.aA
def adg{g e:ak}{m:List Int}(k:ki g m e):cP e:=by
 obtain⟨a,_,b,j,n⟩:=k;refine⟨by rw[b];exact a.1,by rw[j];exact a.2.1,by rw[b];exact a.2.2.1,λo h=>?_⟩
 obtain⟨i,l,rfl⟩:=e5.1 h;have d:i<g.af.length:=by omega
 rw[b];have f:=a.2.2.2 _ (dd d);rcases n i _ _ (c6 d) (c6 l) with⟨c,_⟩ |⟨c,_⟩
 .rw[c];exact f
 .rw[c];exact f
def Uw(o:ak)(b:aL)(s:List Int)(t:Int){n np:Nat}(ap:n<=3)(aF:np<=64)(N:gF b)(Y:Fit s)(ac:Fit o.af)(G:∀a,a∈b.aA->j0 n np a/\a.aw.length=n)(R:o.ai.length=np):Ok (Em LC o b s t) λq=>(q.2=0/\Ff o b s t n np q.1)\/q.2≠0:=by
 unfold Em;refine aD (vB o b N) λv ar=>?_
 rw[de];refine dy (λal=>?_) (λ_=>ae (.inr (by simp)))
 have H:=ar al;have ax:=H.num;have h0:b.aA[0]?=c7 (b.aA[0]'(by omega)):=c6 (by omega);have M:=dd (show 0<b.aA.length by omega);generalize b.aA[0]'(by omega)=aq at h0 M;have aw:=H.Mp M (by rw[(G aq M).2];exact ap);refine aD (Nw o s Y ac) λr X=>?_
 refine aV (λp=>ae (.inr p)) (λag=>?_)
 obtain⟨bm,ah⟩:=r;have C:ki o s bm:=by
  rcases X with⟨_,l⟩ |⟨l,_⟩
  .exact l
  .exact absurd l ag
 have Z:=adg C;rw[Yj (by show b.aA.length<=_;omega) (λa f=>by show a.aH.length<=_;rw[(G a f).1.1];omega),aa];have K:(bif c5 (2147483648<t) then c7 true else c7 (b.aA.any λa=>a.aH.any λx=>c5 (t<x.aa0)))=c7 (c5 (2147483648<t)||b.aA.any λa=>a.aH.any λx=>c5 (t<x.aa0)):=Fy rfl;rw[K,aa];refine dy (λ_=>ae (.inr (by simp))) (λ_=>?_)
 refine aD (Q:=λc=>match c with
  | .inl c=>c.2≠0
  | .inr c=>gG (λx y=>rI bm t x y) b.aA c) ?_ λc E=>?_
 .refine di b.aA.length (λi e=>∃out,e=(out,(i:Int))/\gG (λx y=>rI bm t x y) (b.aA.take i) out) _ (λi e U m=>?_) (λe m=>?_) _ ⟨[],rfl,gG.nil⟩
  .obtain⟨out,rfl,A⟩:=m;have f:b.aA[i]?=c7 b.aA[i]:=c6 U;have F:=dd U;generalize b.aA[i]=a at f F;have ao:=N.2 a F;obtain⟨D,aj⟩:=G a F;have az:=D.1;have S:=A.1;rw[ea] at S;dsimp only;unfold FR;rw[aC,bn,f,aa,zK ao,aa];dsimp only;have af:Ok (bO (λe:List aM×Int=>zx LC a (bm,ah) t b e.1 e.2) (a.aH,0)) λc=>match c with
    | .inl c=>c.2≠0
    | .inr c=>c.length=a.aH.length/\∀(d:Nat) x h,a.aH[d]?=c7 x->c[d]?=c7 h->rI bm t x h:=by
    refine di a.aH.length (λd e=>e.2=(d:Int)/\e.1.length=a.aH.length/\∀(k:Nat) x h,k<d->a.aH[k]?=c7 x->e.1[k]?=c7 h->rI bm t x h) _ (λd e z m=>?_) (λe m=>?_) _ ⟨rfl,rfl,λk x h aE=>by omega⟩
    .obtain⟨aK,ab⟩:=e;obtain⟨rfl,w,u⟩:=m;dsimp only at w u⊢;have g:a.aH[d]?=c7 a.aH[d]:=c6 z;have O:=dd z;generalize a.aH[d]=x at g O;unfold zx;rw[aC,bn,g,aa];refine aD (apC (bm:=bm) (x:=x) (t:=t) (by rw[D.2 x O,C.pl,R]) (H.ok a F x O).1.2.2 Z) λq ai=>?_
     refine aV (λp=>ae p) (λp=>?_)
     have au:rI bm t x q.1:=by
      rcases ai with⟨_,l⟩ |l
      .exact l
      .exact absurd l p
     have L:d<aK.length:=by omega
     rw[bn,c6 L,aa,dk,c6 L,aa,aJ];refine ae ⟨rfl,by rw[dT];exact w,λk y an aA B j=>?_⟩
     dsimp only at j
     by_cases T:k=d
     .subst T;rw[gv L] at j;rw[g] at B;injection B with B
      injection j with j
      subst B j;exact au
     .rw[hq (λK=>T K.symm)] at j;exact u k y an (by omega) B j
    .obtain⟨aK,ab⟩:=e;obtain⟨rfl,w,u⟩:=m;dsimp only at w u⊢;unfold zx;rw[aG];exact ae ⟨w,λd x h g V=>u d x h (dt.1 g).1 g V⟩
   obtain⟨c,W,P⟩:=af;rw[W];simp only[aa];cases c with
   |inl c=>
    dsimp only[ft,ei];rw[aa];exact ae P
   |inr c=>
    obtain⟨J,I⟩:=P;dsimp only[ft,ei];rw[aa];dsimp only[ft,ei];rw[dm (by decide) (by omega),aa,aJ];refine ae ⟨_,rfl,?_⟩
    rw[iE f];exact A.snoc rfl J I
  .obtain⟨out,rfl,A⟩:=m;dsimp only;unfold FR;rw[aG];rw[gy] at A;exact ae A
 .cases c with
  |inl c=>exact ae (.inr E)
  |inr c=>
   dsimp only[ei];have S:=E.1;refine aD (QQ (n:=n) (np:=np) (by omega) (by omega) c (λay av=>?_) (by omega)) λout am=>ae (.inl ⟨rfl,H,bm,c,C,E,am⟩)
   obtain⟨a,f,J,I,ad⟩:=E.back av;obtain⟨D,aj⟩:=G a f;refine⟨⟨I.trans D.1,λx g=>?_⟩,by rw[J];exact(N.2 a f).tg⟩
   obtain⟨d,z⟩:=hP.1 g;have aB:=(dt.1 z).1;have:=(ad d _ x (c6 (show d<a.aH.length by omega)) z).new.1.1;rw[this,C.pl,R]
def ld(b:aL)(a e:Int):List Int:=kM (λp=>b.aA.any λc=>c5 (0<=a/\a<(c.aH.length:Int))&&(match c.aH[a.toNat]? with |some d=>c5 (p<(d.an.length:Int))&&c5 (fn d.an p<=e) |none=>false)) 64
def QC{b:aL}{a e:Int}(m:gF b):rJ LC b a e=c7 (ld b a e):=by
 unfold rJ Lb;have u:=jZ m.1;have q:=GY (n:=64) (by omega) (P:=λd=>AZ LC d b.aA a e) (p:=λp=>b.aA.any λc=>c5 (0<=a/\a<(c.aH.length:Int))&&(match c.aH[a.toNat]? with |some g=>c5 (p<(g.an.length:Int))&&c5 (fn g.an p<=e) |none=>false)) (f:=λd=>JI LC 64 b.aA a e d.1 d.2) (λi t=>by
  unfold AZ FH Gu;have:=fF (l:=b.aA) (P:=λc=>zt LC c a (i:Int) e) (p:=λc=>c5 (0<=a/\a<(c.aH.length:Int))&&(match c.aH[a.toNat]? with |some g=>c5 ((i:Int)<(g.an.length:Int))&&c5 (fn g.an i<=e) |none=>false)) (f:=λd=>GA LC b.aA a (i:Int) e d) (by omega) (λc o=>by
   unfold zt;have s:=jZ (m.2 c o).wh;rw[aJ (n:=(c.aH.length:Int) -1),cF,aa]
   by_cases j:0<=a/\a<=(c.aH.length:Int) -1
   .have k:c.aH[a.toNat]?=c7 (c.aH[a.toNat]'(by omega)):=c6 (by omega);generalize c.aH[a.toNat]'(by omega)=g at k;have r:aj c.aH a=c7 g:=by unfold aj;rw[if_pos j.1];exact k
    rw[aC j,r,aa,aa,k,decide_eq_true (show 0<=a/\a<(c.aH.length:Int) by omega),Bool.true_and];dsimp only
    by_cases h:(i:Int)<(g.an.length:Int)
    .rw[aC h,gH (by omega) h,aa,decide_eq_true h];rfl
    .rw[aG h,decide_eq_false h];rfl
   .rw[aG j,decide_eq_false (show ¬(0<=a/\a<(c.aH.length:Int)) by omega)];rfl) (λd=>rfl)
  rw[show(LC.loop (λd=>GA LC b.aA a (i:Int) e d) 0).bind _=_ from this,aa,gm]
  rfl) (λl d=>rfl)
 rw[show LC.loop (λd:List Int×Int=>JI LC 64 b.aA a e d.1 d.2) ([],0)=_ from q,aa,aa]
 rfl
def js(e:ay)(a:List Int)(d:Int)(c:Nat):Bool:=match e.aH[c]? with |some b=>(dz b d).any λp=>c5 (p∈a) |none=>false
def jT(d:ay)(a:List Int)(c:Int)(b:Nat):Bool:=js d a c b&&(match d.aH[b]? with |some e=>!(dz e c).any λp=>!c5 (p∈a) |none=>false)
def Zz{e:ay}{g:Nat}{a:List Int}{c:Int}(k:tz e)(m:Fit a)(n:g<e.aH.length):Cx LC e (g:Int) a c=c7 (jT e a c g,js e a c g):=by
 have j:e.aH[g]?=c7 e.aH[g]:=c6 n;have i:=dd n;unfold Cx jT js;rw[j];generalize e.aH[g]=b at j i;have t:=jZ (k.fr b i);have s:(dz b c).length<=b.an.length:=pQ;have q:CG LC (dz b c) a=c7 ((dz b c).any λp=>c5 (p∈a)):=by
  unfold CG Jg;have:=fF (l:=dz b c) (P:=λh=>uh LC h a) (p:=λp=>c5 (p∈a)) (f:=λd=>Jj LC (dz b c) a d) (by omega) (λh r=>by
   unfold uh;rw[contains_eq m,aa]) (λd=>rfl)
  rw[show(LC.loop (λd=>Jj LC (dz b c) a d) 0).bind _=_ from this,aa,gm]
 have o:zo LC (dz b c) a=c7 ((dz b c).any λp=>!c5 (p∈a)):=by
  unfold zo FW;have:=fF (l:=dz b c) (P:=λh=>zq LC h a) (p:=λp=>!c5 (p∈a)) (f:=λd=>Ih LC (dz b c) a d) (by omega) (λh r=>by
   unfold zq uh;rw[contains_eq m,aa,aa]) (λd=>rfl)
  rw[show(LC.loop (λd=>Ih LC (dz b c) a d) 0).bind _=_ from this,aa,gm]
 rw[aG,bn,j,aa,Az (k.fr b i),aa,q,aa,o,aa];dsimp only;cases (dz b c).any λp=>c5 (p∈a) <;> rfl
def fH(p:Nat->Bool):Nat->Int
 |0=>0
 |a+1=>fH p a+(if p a then 1 else 0)
def Iu(p:Nat->Bool):∀a,0<=fH p a/\fH p a<=a
 |0=>by unfold fH;omega
 |a+1=>by have:=Iu p a;unfold fH;split <;> omega
def ase{p q:Nat->Bool}:∀a,(∀i,i<a->p i=true->q i=true)->fH p a<=fH q a
 |0,_=>ey _
 |a+1,b=>by
  have c:=ase a λi f=>b i (by omega)
  have e:=b a (by omega);unfold fH;cases d:p a with
  |true=>rw[e d];simp;exact c
  |false=>simp only[hY,if_false];split <;> omega
def aqJ{b:aL}{area:List Int}{t:Int}(r:gF b)(v:Fit area):Ok (Ew LC b area t) λd=>∀a,a∈b.aA->d.eF<=fH (jT a area t) a.aH.length/\fH (js a area t) a.aH.length<=d.fk:=by
 have D:=jZ r.1;unfold Ew;refine aD (Q:=λo=>∀a,a∈b.aA->o.1<=fH (jT a area t) a.aH.length/\fH (js a area t) a.aH.length<=o.2) ?_ λo w=>ae w
 refine di b.aA.length (λi d=>d.2.2=(i:Int)/\∀a,a∈b.aA.take i->d.1<=fH (jT a area t) a.aH.length/\fH (js a area t) a.aH.length<=d.2.1) _ (λi d s e=>?_) (λd e=>?_) _ ⟨rfl,λa h=>by simp at h⟩
 .obtain⟨l,m,y⟩:=d;obtain⟨rfl,e⟩:=e;dsimp only at e⊢;have h:b.aA[i]?=c7 b.aA[i]:=c6 s;have q:=dd s;generalize b.aA[i]=a at h q;have p:=r.2 a q;have C:=jZ p.wh;unfold Fa;rw[aC,bn,h,aa];have x:=nV (f:=λd:Int×Int×Int=>DF LC a area t d.1 d.2.1 d.2.2) a.aH.length (λc=>(fH (jT a area t) c,fH (js a area t) c,(c:Int))) (fH (jT a area t) a.aH.length,fH (js a area t) a.aH.length) (λc z=>by
   dsimp only;unfold DF;have E:=Iu (jT a area t) c;have F:=Iu (js a area t) c;rw[aC,Zz p v z,aa];dsimp only;rw[aJ (n:=fH (jT a area t) c+1),aJ (n:=fH (js a area t) c+1),aJ (n:=(c:Int)+1)];have A:(bif jT a area t c then c7 (fH (jT a area t) c+1) else c7 (fH (jT a area t) c))=c7 (fH (jT a area t) (c+1)):=by
    rw[fH];cases jT a area t c
    .simp
    .simp
   have k:(bif js a area t c then c7 (fH (js a area t) c+1) else c7 (fH (js a area t) c))=c7 (fH (js a area t) (c+1)):=by
    rw[fH];cases js a area t c
    .simp
    .simp
   rw[A,aa,k,aa]
   rfl) (by
   dsimp only;unfold DF;rw[aG])
  refine c8 x ?_
  dsimp only;have k:(bif c5 ((i:Int)=0) then c7 (fH (jT a area t) a.aH.length,fH (js a area t) a.aH.length) else c7 (l,m))=c7 (if(i:Int)=0 then(fH (jT a area t) a.aH.length,fH (js a area t) a.aH.length) else(l,m)):=by
   by_cases j:(i:Int)=0
   .rw[aC j,if_pos j]
   .rw[aG j,if_neg j]
  rw[k,aa,aJ];refine ae ⟨rfl,λu g=>?_⟩
  rw[iE h] at g;dsimp only;rcases e4.1 g with g |g
  .have B:=e u g;rw[if_neg (by
    intro h0;have:i=0:=by omega
    subst this;simp at g)]
   omega
  .rw[e0] at g;subst g
   split <;> omega
 .obtain⟨l,m,y⟩:=d;obtain⟨rfl,e⟩:=e;dsimp only at e⊢;unfold Fa;rw[aG];rw[gy] at e;exact ae e
def atu{b:aL}{area:List Int}{t:Int}{n:Nat}(k:gF b)(u:Fit area)(r:∀c,c∈b.aA->c.aH.length=n):Ok (ar4 LC b area t) λl=>l.length<=1000000/\∀d,d∈l->∃i:Nat,d=(i:Int)/\∀c,c∈b.aA->jT c area t i=true:=by
 have A:=jZ k.1;unfold ar4 asb
 by_cases h0:(b.aA.length:Int)=0
 .rw[aC h0,aa];unfold arY;have g:bO (λa:List Int×Int=>anX LC 0 b.aA area t a.1 a.2) ([],0)=c7 []:=fZ (by dsimp only;unfold anX;rfl);rw[show LC.loop (λa:List Int×Int=>anX LC 0 b.aA area t a.1 a.2) ([],0)=_ from g];simp only[aa];exact ae ⟨by simp,λd m=>by cases m⟩
 rw[aG h0];have q:b.aA[0]?=c7 (b.aA[0]'(by omega)):=c6 (by omega);have h:=dd (show 0<b.aA.length by omega);generalize b.aA[0]'(by omega)=j at q h;have s:aj b.aA 0=c7 j:=by rw[show(0:Int)=((0:Nat):Int) from rfl,bn];exact q
 have v:=r j h;have x:=jZ (k.2 j h).wh;rw[s,aa,aa,v];unfold arY;have g:=GY (n:=n) (by omega) (P:=λa=>ar6 LC a b.aA area t) (p:=λd=>!b.aA.any λc=>!jT c area t d.toNat) (f:=λa=>anX LC (n:Int) b.aA area t a.1 a.2) (λi w=>by
  unfold ar6 ar8 asa;have:=fF (l:=b.aA) (P:=λc=>ar0 LC c (i:Int) area t) (p:=λc=>!jT c area t (i:Int).toNat) (f:=λa=>asi LC b.aA (i:Int) area t a) (by omega) (λc e=>by
   unfold ar0;rw[Zz (k.2 c e) u (by rw[r c e];exact w),aa,dk]) (λa=>rfl)
  rw[show(LC.loop (λa=>asi LC b.aA (i:Int) area t a) 0).bind _=_ from this,aa,gm]
  rfl) (λl a=>rfl)
 rw[show LC.loop (λa:List Int×Int=>anX LC (n:Int) b.aA area t a.1 a.2) ([],0)=_ from g];simp only[aa];refine ae ⟨h9 pQ (by omega),λd m=>?_⟩
 obtain⟨z,y,o⟩:=SJ.1 m;refine⟨d.toNat,by omega,λc e=>?_⟩
 rw[Bool.not_eq_true',k0] at o;have:=o c e;simpa using this
def D1(b:aL)(d:List Int):Prop:=∀c,c∈b.aA->∀a,a∈c.aH->∀p,p∈d->0<=p->p<(a.an.length:Int)->fn a.an p=1099511627776
noncomputable instance (b:aL) (a:List Int):Decidable (D1 b a):=m1 _
def apy{b:List Int}{a:aM}(i:Fit b)(h:Sm a.an):As LC b a=c7 (b.any λp=>c5 ((0<=p/\p<(a.an.length:Int))/\fn a.an p≠1099511627776)):=by
 unfold As G4;have j:=jZ h;have:=fF (l:=b) (P:=λc=>CR LC c a) (p:=λp=>c5 ((0<=p/\p<(a.an.length:Int))/\fn a.an p≠1099511627776)) (f:=λg=>G9 LC b a g) i (λc k=>by
  unfold CR;rw[aJ,cF,aa]
  by_cases e:0<=c/\c<=(a.an.length:Int) -1
  .rw[aC e,gH e.1 (by omega),aa]
   congr 1
   exact decide_eq_decide.2 ⟨λd=>⟨by omega,d⟩,λd=>d.2⟩
  .rw[aG e,decide_eq_false (λd=>e (by omega))]) (λg=>rfl)
 rw[show(LC.loop (λg=>G9 LC b a g) 0).bind _=_ from this,aa,gm]
def Vo{b:aL}{e:List Int}(m:gF b)(t:Fit e):wA LC b e=c7 (c5 (D1 b e)):=by
 have A:=jZ m.1;unfold wA;have r:∀c,c∈b.aA->bO (λg=>xK LC c e g) 0=c7 (if ∀i,i<c.aH.length->(λi:Nat=>match c.aH[i]? with |some d=>e.any λp=>c5 ((0<=p/\p<(d.an.length:Int))/\fn d.an p≠1099511627776) |none=>false) i=false then .inr () else .inl ()):=λc h=>by
  have z:=jZ (m.2 c h).wh;refine oD _ _ () (λi a=>?_) ?_
  .unfold xK;rw[aC,bn,c6 a,aa,apy t ((m.2 c h).fr _ (dd a)),aa,aJ];simp only[c6 a];cases e.any λp=>c5 ((0<=p/\p<(c.aH[i].an.length:Int))/\fn c.aH[i].an p≠1099511627776) <;> rfl
  .unfold xK;rw[aG]
 have o:∀c,c∈b.aA->((∀i,i<c.aH.length->(λi:Nat=>match c.aH[i]? with |some d=>e.any λp=>c5 ((0<=p/\p<(d.an.length:Int))/\fn d.an p≠1099511627776) |none=>false) i=false)↔∀d,d∈c.aH->∀p,p∈e->0<=p->p<(d.an.length:Int)->fn d.an p=1099511627776):=λc h=>by
  constructor
  .intro f d w p l h0 k;obtain⟨i,a,rfl⟩:=e5.1 w;have:=f i a;simp only[c6 a,k0] at this;have:=this p l;rw[decide_eq_true_iff] at this;exact dv λx=>this ⟨⟨h0,k⟩,x⟩
  .intro f i a;simp only[c6 a,k0];intro p l q;obtain⟨⟨h0,k⟩,s⟩:=of_decide_eq_true q;exact s (f _ (dd a) p l h0 k)
 have v:bO (λg=>wF LC b e g) 0=c7 (if ∀i,i<b.aA.length->(λi:Nat=>match b.aA[i]? with |some c=>!c5 (∀i,i<c.aH.length->(λi:Nat=>match c.aH[i]? with |some d=>e.any λp=>c5 ((0<=p/\p<(d.an.length:Int))/\fn d.an p≠1099511627776) |none=>false) i=false) |none=>false) i=false then .inr () else .inl ()):=by
  refine oD _ _ () (λi a=>?_) ?_
  .unfold wF;rw[aC,bn,c6 a,aa,show LC.loop (λg=>xK LC b.aA[i] e g) 0=_ from r _ (dd a),aa,aJ];simp only[c6 a]
   by_cases f:∀n,n<b.aA[i].aH.length->(λy:Nat=>match b.aA[i].aH[y]? with |some d=>e.any λp=>c5 ((0<=p/\p<(d.an.length:Int))/\fn d.an p≠1099511627776) |none=>false) n=false
   .rw[if_pos f,decide_eq_true f];rfl
   .rw[if_neg f,decide_eq_false f];rfl
  .unfold wF;rw[aG]
 rw[show LC.loop (λg=>wF LC b e g) 0=_ from v,aa]
 by_cases j:D1 b e
 .rw[if_pos (λi a=>by
   simp only[c6 a];rw[decide_eq_true ((o _ (dd a)).2 (j _ (dd a)))];rfl),decide_eq_true j]
  rfl
 .rw[if_neg (λu=>j λc h=>by
   obtain⟨i,a,rfl⟩:=e5.1 h;have:=u i a;simp only[c6 a] at this;rw[Bool.not_eq_false',decide_eq_true_iff] at this;exact(o _ h).1 this),decide_eq_false j]
  rfl
def ke(a:bI):Prop:=-1125899906842624<=a.eF/\a.fk<=1125899906842624/\a.eF<=a.fk
instance (a:bI):Decidable (ke a):=by unfold ke;infer_instance
def lq(a:ak)(b:List bI):Prop:=cP a/\b.length=a.af.length/\∀c,c∈b->ke c
instance (a:ak) (b:List bI):Decidable (lq a b):=by unfold lq;infer_instance
def uW(d:ak)(l:List bI):pD LC d l=c7 (c5 (lq d l)):=by
 unfold pD;rw[ko,aa]
 by_cases c:cP d
 rotate_left
 .rw[aG c,decide_eq_false (λb=>c b.1)]
 have i:=c.2.1;rw[aC c]
 by_cases e:(l.length:Int)=(d.af.length:Int)
 rotate_left
 .rw[aG e,decide_eq_false (λb=>e (by have:=b.2.1;omega))]
 rw[aC e];have h:B8 LC l=c7 (l.any λa=>!c5 (ke a)):=by
  unfold B8 Kq;have:=fF (l:=l) (P:=λg=>EP LC g) (p:=λa=>!c5 (ke a)) (f:=λa=>Kz LC l a) (by omega) (λg j=>by
   unfold EP;rw[ew (ew rfl), <-decide_not]
   congr 1
   apply decide_eq_decide.2
   unfold ke;omega) (λa=>rfl)
  rw[show(LC.loop (λa=>Kz LC l a) 0).bind _=_ from this,aa,gm]
 rw[h,aa,ot]
 congr 1
 exact decide_eq_decide.2 ⟨λb=>⟨c,by omega,b⟩,λb=>b.2.2⟩
def Fe{a:ak}(l:cP a){i:Nat}{d:bI}(b:Bool)(p:ke d):Ok (n6 LC a (i:Int) d b) λn=>n= -1\/(0<=n/\n<=1000000000000):=by
 obtain⟨w,t,s⟩:=p;have z:=l.2.1;unfold n6
 by_cases m:i<a.af.length
 rotate_left
 .have f:(bif c5 ((i:Int)<0) then c7 true else bif c5 ((a.af.length:Int)<=(i:Int)) then c7 true else(aj a.af (i:Int)).bind λh=>c7 h.eN)=c7 true:=by
   rw[aG,aC]
  rw[f,aa];exact ae (.inl rfl)
 have j:=l.2.2.2 _ (dd m);have g:=c6 m;generalize a.af[i]=r at j g;have e:=j.2.1;have f:(bif c5 ((i:Int)<0) then c7 true else bif c5 ((a.af.length:Int)<=(i:Int)) then c7 true else(aj a.af (i:Int)).bind λh=>c7 h.eN)=c7 r.eN:=by
  rw[aG,aG,bn,g,aa]
 rw[f,aa];refine dy (λ_=>ae (.inl rfl)) (λ_=>?_)
 rw[bn,g,aa,aJ (n:=0 -d.fk),aJ (n:=0 -d.eF)];refine aD (Q:=λc=>-1125899906842624<=c.2/\c.2<=1125899906842624) (dy (λ_=>ae (by dsimp only;omega)) (λ_=>ae (by dsimp only;omega))) λc v=>?_
 refine aD (Q:=λn=>n= -1\/(0<=n/\n<=1000000000000)) (dy (λ_=>ae (.inr (by omega))) (λ_=>ae (.inl rfl))) λn k=>?_
 refine aV (λx=>?_) (λ_=>ae k)
 have u:1<=r.aj3*r.bT:=q6 (by decide) (mb e.1 e.2.2.1 (by decide) (by omega));have q:r.aj3*r.bT<=100000*1000:=mb e.2.1 e.2.2.2 (by omega) (by decide);rw[aJ (n:=r.aj3*r.bT),aJ (n:=r.aj3*r.bT*1000),Ek (by omega),aa];have o:(r.aj3*r.bT*1000).tdiv c.2=(r.aj3*r.bT*1000)/c.2:=Int.tdiv_eq_ediv_of_nonneg (by omega);have y:0<=(r.aj3*r.bT*1000)/c.2:=p4 (by omega) (by omega);have A:(r.aj3*r.bT*1000)/c.2<=r.aj3*r.bT*1000:=oi _ (by omega);rw[o,aJ,ew rfl,aa];exact aV (λ_=>ae (.inr (by omega))) (λ_=>ae k)
def eC(c:ak)(b:List Int):Prop:=b.length=c.ai.length/\∀a,a∈b->0<=a/\a<=1099511627776
def iu:List Int->Int
 |[]=>0
 |a::b=>a+iu b
def FF:∀{l:List Int},(∀a,a∈l->0<=a/\a<=1099511627776)->0<=iu l
 |[],_=>ey _
 |a::l,b=>by
  have e:=b a (by simp);have f:=FF (l:=l) λd c=>b d (by simp[c])
  unfold iu;omega
def LQ:∀{b:List Int} {i:Nat} {d a:Int},b[i]?=c7 a->iu (b.set i d)=iu b -a+d
 |[],i,d,a,c=>by simp at c
 |e::b,0,d,a,c=>by
  have:e=a:=by simpa using c
  subst this;rw[hX];unfold iu;omega
 |e::b,i+1,d,a,c=>by
  have f:b[i]?=c7 a:=by simpa using c
  rw[l2];unfold iu;rw[LQ f];omega
def eC.set{m:ak}{c:List Int}(h:eC m c)(i:Nat){x:Int}(d:0<=x/\x<=1099511627776):eC m (c.set i x):=⟨by rw[dT];exact h.1,λe a=>by
 rcases ev a with a |rfl
 .exact h.2 e a
 .exact d⟩
def P4{c:ak}{fl:List bI}(j:lq c fl){a:List Int}(d:eC c a){i:Nat}(l:i<c.af.length){p q:Int}(f:0<=p/\p<(c.ai.length:Int))(e:0<=q/\q<(c.ai.length:Int))(b:Bool):
 Ok (yr LC a c.ai c.af fl (i:Int) p q b) λr=>eC c r.1/\((r.2=false/\r.1=a)\/(r.2=true/\iu r.1<iu a)):=by
 have k:i<fl.length:=by rw[j.2.1];exact l
 unfold yr;rw[bn,c6 k,aa];refine aD (Fe j.1 b (j.2.2 _ (dd k))) λn t=>?_
 have h:p<(a.length:Int):=by rw[d.1];exact f.2
 have g:q<(a.length:Int):=by rw[d.1];exact e.2
 have o:=d.2 _ (oR f.1 h);have s:=d.2 _ (oR e.1 g);rw[gH f.1 h,iD f.1 h,gH e.1 g,iD e.1 g];simp only[aa];rw[aJ (n:=fn a p+n),ew (ew (ew rfl)),aa];refine aV (λ_=>ae ⟨d,.inl ⟨rfl,rfl⟩⟩) (λm=>ae ⟨d.set _ (by omega),.inr ⟨rfl,?_⟩⟩)
 show iu (a.set q.toNat (fn a p+n))<iu a
 rw[LQ (iD e.1 g)];omega
def Af{b:ak}{fl:List bI}(k:lq b fl){m:List Int}(x:eC b m):Ok (rM LC m b.ai b.af fl) (eC b):=by
 have B:=k.1.2.1;unfold rM;refine aD (Q:=eC b) ?_ λr e=>ae e
 refine oa (λa:List Int×Bool=>eC b a.1) (λa=>2*(iu a.1).toNat+(if a.2 then 1 else 0)) _ (λa d=>?_) _ x
 obtain⟨aK,A⟩:=a;unfold Ms;refine dy (λt=>?_) (λ_=>ae d)
 dsimp only at t d⊢;subst t;refine aD (Q:=λg=>eC b g.1/\((g.2=false/\iu g.1<=iu aK)\/(g.2=true/\iu g.1<iu aK))) ?_ λg p=>?_
 .refine di b.af.length (λi a=>a.2.2=(i:Int)/\eC b a.1/\((a.2.1=false/\iu a.1<=iu aK)\/(a.2.1=true/\iu a.1<iu aK))) _ (λi a n d=>?_) (λa d=>?_) _ ⟨rfl,d,.inl ⟨rfl,ey _⟩⟩
  .obtain⟨m,o,z⟩:=a;obtain⟨rfl,j,c⟩:=d;dsimp only at j c⊢;have e:=(k.1.2.2.2 _ (dd n)).1;unfold I6;rw[aC,bn,c6 n,aa];generalize b.af[i]=r at e;refine aD (P4 k j n ⟨e.1,by omega⟩ ⟨e.2.2.1,by omega⟩ false) λs w=>?_
   refine aD (P4 k w.1 n ⟨e.2.2.1,by omega⟩ ⟨e.1,by omega⟩ true) λv u=>?_
   have y:(bif o then c7 true else bif s.2 then c7 true else c7 v.2)=c7 (o||(s.2||v.2)):=Fy (Fy rfl);rw[y,aa,aJ];refine ae ⟨rfl,u.1,?_⟩
   dsimp only;rcases c with⟨rfl,c⟩ |⟨rfl,c⟩ <;> rcases w.2 with⟨f,h⟩ |⟨f,h⟩ <;> rcases u.2 with⟨q,l⟩ |⟨q,l⟩ <;> rw[f,q] <;> simp only[Bool.or_false,Bool.or_true,Bool.true_or,Bool.false_or,true_and,false_and,reduceCtorEq,false_or,or_false] <;> first |(rw[l,h];exact c) |(rw[l];omega) |(rw[h] at l;omega) |omega
  .obtain⟨m,o,z⟩:=a;obtain⟨rfl,j,c⟩:=d;dsimp only at j c⊢;unfold I6;rw[aG];exact ae ⟨j,c⟩
 .have C:=FF d.2;have D:=FF p.1.2;refine ae ⟨p.1,?_⟩
  dsimp only;rcases p.2 with⟨f,h⟩ |⟨f,h⟩
  .rw[f];simp only[if_true,hY,if_false];omega
  .rw[f];simp only[if_true];omega
def ud(c:ak)(a:bQ):Prop:=cP c/\a.an.length=c.ai.length/\(0<=a.aa0/\a.aa0<=2147483648)/\∀b,b∈a.an->b=1099511627776\/(a.aa0<=b/\b<=2147483648)
instance (a:ak) (b:bQ):Decidable (ud a b):=by unfold ud;infer_instance
def QM(g:ak)(a:bQ):wB LC g a=c7 (c5 (ud g a)):=by
 unfold wB;rw[ko,aa]
 by_cases e:cP g
 rotate_left
 .rw[aG e,decide_eq_false (λb=>e b.1)]
 have n:=e.1;rw[aC e]
 by_cases h:(a.an.length:Int)=(g.ai.length:Int)
 rotate_left
 .rw[aG h,decide_eq_false (λb=>h (by have:=b.2.1;omega))]
 rw[aC h,cF,aa];have k:Ab LC a.an a=c7 (a.an.any λc=>!c5 (c=1099511627776\/(a.aa0<=c/\c<=2147483648))):=by
  unfold Ab GH;have:=fF (l:=a.an) (P:=λd=>DV LC d a) (p:=λc=>!c5 (c=1099511627776\/(a.aa0<=c/\c<=2147483648))) (f:=λi=>GU LC a.an a i) (by omega) (λd o=>by
   unfold DV;rw[cF,aa]
   by_cases b:d=1099511627776
   .rw[aG (λm=>m b),decide_eq_true (show d=1099511627776\/(a.aa0<=d/\d<=2147483648) from .inl b)];rfl
   .rw[aC b]
    congr 2
    apply decide_eq_decide.2
    exact⟨.inr,λj=>j.resolve_left b⟩) (λa=>rfl)
  rw[show(LC.loop (λi=>GU LC a.an a i) 0).bind _=_ from this,aa,gm]
 rw[k,aa,ot,fm rfl]
 congr 1
 exact decide_eq_decide.2 ⟨λb=>⟨e,by omega,b⟩,λb=>b.2.2⟩
def eC.of{m:ak}{s:bQ}(h:ud m s):eC m s.an:=⟨h.2.1,λx a=>by have:=h.2.2.2 x a;have:=h.2.2.1;omega⟩
def filled(a:bQ)(b:Int):List Int:=kM (λp=>c5 (fn a.an p<=b)) a.an.length
def Oo{a:bQ}{c:Int}(d:Sm a.an):w6 LC a c=c7 (filled a c):=by
 unfold w6 Fc;have e:=GY (n:=a.an.length) d (P:=λb=>A8 LC b a c) (p:=λp=>c5 (fn a.an p<=c)) (f:=λb=>JS LC (a.an.length:Int) a c b.1 b.2) (λi g=>by
  unfold A8;rw[gH (by omega) (by omega),aa]) (λh a=>rfl)
 rw[show LC.loop (λb:List Int×Int=>JS LC (a.an.length:Int) a c b.1 b.2) ([],0)=_ from e,aa,aa]
 rfl
def aqw(a:ak)(fl:List bI)(b:List Int)(h:Int)(s:Fit b)(t:Fit a.ai):Ok (Eh LC a fl b h) λq=>(q.2=0/\eC a q.1.an/\q.1.aa0=h/\lq a fl)\/(q.2≠0/\¬(lq a fl/\cj 0 ((a.ai.length:Int) -1) b/\0<=h/\h<=2147483648)):=by
 have y:a.ai.length<=4611686018427387904:=t;unfold Eh;rw[uW,aa,de];refine aV (λf=>?_) (λf=>ae (.inr ⟨by simp,λg=>f g.1⟩))
 rw[aJ,kw _ _ _ s,aa,de];refine aV (λd=>?_) (λd=>ae (.inr ⟨by simp,λg=>d g.2.1⟩))
 rw[cF,aa,de];refine aV (λm=>?_) (λm=>ae (.inr ⟨by simp,λg=>m g.2.2⟩))
 have x:=f.1.1;have A:=d.len (by omega);rw[B6 (by omega),aa];refine aD (Q:=eC a) ?_ λB v=>?_
 .refine di b.length (λi c=>c.2=(i:Int)/\eC a c.1) _ (λi c o j=>?_) (λc j=>?_) _ ⟨rfl,e6,λz w=>by rw[gx w];omega⟩
  .obtain⟨aK,u⟩:=c;obtain⟨rfl,e⟩:=j;dsimp only at e⊢;have n:b[i]?=c7 b[i]:=c6 o;have k:=d.mem (dd o);generalize b[i]=p at n k;have l:p<(aK.length:Int):=by rw[e.1];omega
   unfold Fg;rw[aC,bn,n,aa,gH k.1 l,aa,iD k.1 l,aa,aJ];exact ae ⟨rfl,e.set _ (by omega)⟩
  .obtain⟨aK,u⟩:=c;obtain⟨rfl,e⟩:=j;dsimp only at e⊢;unfold Fg;rw[aG];exact ae e
 .exact aD (Af f v) λr d=>ae (.inl ⟨rfl,d,rfl,f⟩)
def amZ(a:ak)(fl:List bI)(b:List Int)(h:Int)(s:Fit b)(t:Fit a.ai):Ok (EX LC a fl b h) λq=>(q.2.2=0/\eC a q.1/\q.2.1=h/\lq a fl)\/(q.2.2≠0/\¬(lq a fl/\cj 0 ((a.ai.length:Int) -1) b/\0<=h/\h<=2147483648)):=by
 have y:a.ai.length<=4611686018427387904:=t;unfold EX;rw[uW,aa,de];refine aV (λf=>?_) (λf=>ae (.inr ⟨by simp,λg=>f g.1⟩))
 rw[aJ,kw _ _ _ s,aa,de];refine aV (λd=>?_) (λd=>ae (.inr ⟨by simp,λg=>d g.2.1⟩))
 rw[cF,aa,de];refine aV (λm=>?_) (λm=>ae (.inr ⟨by simp,λg=>m g.2.2⟩))
 have x:=f.1.1;have A:=d.len (by omega);rw[B6 (by omega),aa];refine aD (Q:=eC a) ?_ λB v=>?_
 .refine di b.length (λi c=>c.2=(i:Int)/\eC a c.1) _ (λi c o j=>?_) (λc j=>?_) _ ⟨rfl,e6,λz w=>by rw[gx w];omega⟩
  .obtain⟨aK,u⟩:=c;obtain⟨rfl,e⟩:=j;dsimp only at e⊢;have n:b[i]?=c7 b[i]:=c6 o;have k:=d.mem (dd o);generalize b[i]=p at n k;have l:p<(aK.length:Int):=by rw[e.1];omega
   unfold HM;rw[aC,bn,n,aa,gH k.1 l,aa,iD k.1 l,aa,aJ];exact ae ⟨rfl,e.set _ (by omega)⟩
  .obtain⟨aK,u⟩:=c;obtain⟨rfl,e⟩:=j;dsimp only at e⊢;unfold HM;rw[aG];exact ae e
 .exact aD (Af f v) λr d=>ae (.inl ⟨rfl,d,rfl,f⟩)
def ajz(a:ak)(fl:List bI)(l:ak)(C:List bI)(m:bQ)(w:Int):Ok (uk LC a fl l C m w) λq=>((q.2=0/\eC l q.1.an/\l.ai.length=a.ai.length)\/(q.2≠0/\q.1=m)):=by
 unfold uk;rw[uW,aa,QM,aa,uW,aa,fh (fh (fh rfl)),aa];refine aV (λ_=>ae (.inr ⟨by simp,rfl⟩)) (λn=>?_)
 have j:lq a fl:=dv λh=>n (.inl h)
 have t:ud a m:=dv λh=>n (.inr (.inl h))
 have K:lq l C:=dv λh=>n (.inr (.inr (.inl h)))
 have Z:(l.ai.length:Int)=a.ai.length:=dv λh=>n (.inr (.inr (.inr h)))
 rw[ew rfl,aa];refine aV (λ_=>ae (.inr ⟨by simp,rfl⟩)) (λad=>?_)
 have ab:=j.1.1;have ag:=j.1.2.1;have R:=t.2.1;have ai:=t.2.2.1;have S:=eC.of t;rw[nS (by omega) (by omega),aa,dk];refine aD (Q:=eC a) ?_ λam M=>?_
 .refine di m.an.length (λi c=>c.2=(i:Int)/\eC a c.1) _ (λi c k g=>?_) (λc g=>?_) _ ⟨rfl,by rw[e6];exact R,λy B=>by rw[gx B];omega⟩
  .obtain⟨aK,u⟩:=c;obtain⟨rfl,d⟩:=g;dsimp only at d⊢;have af:=d.1;have B:=S.2 _ (dd k);unfold Fi;rw[aC,bn,c6 k,aa,bn,c6 (show i<aK.length by omega),aa,dk,c6 (show i<aK.length by omega),aa,aJ];exact ae ⟨rfl,d.set _ (by omega)⟩
  .obtain⟨aK,u⟩:=c;obtain⟨rfl,d⟩:=g;dsimp only at d⊢;unfold Fi;rw[aG];exact ae d
 refine aD (Q:=eC a) ?_ λX x=>?_
 .refine di a.af.length (λi c=>c.2=(i:Int)/\eC a c.1) _ (λi c k g=>?_) (λc g=>?_) _ ⟨rfl,M⟩
  .obtain⟨aK,u⟩:=c;obtain⟨rfl,d⟩:=g;dsimp only at d⊢;have e:=(j.1.2.2.2 _ (dd k)).1;have D:i<fl.length:=by rw[j.2.1];exact k
   have A:=j.2.2 _ (dd D);unfold Ii;rw[aC,bn,c6 k,aa,bn,c6 D];generalize a.af[i]=r at e;generalize fl[i]=G at A;have stp:∀(p q:Int) (o:Bool) (f:List Int),(0<=p/\p<(a.ai.length:Int))->(0<=q/\q<(a.ai.length:Int))->eC a f->Ok (((aj m.an p).bind λy=>bif c5 (y<=w) then(c7 G).bind λO=>(n6 LC a (i:Int) O o).bind λY=>c7 (c5 (0<=Y)) else c7 false).bind λP=>bif P then(aj f q).bind λ_=>(f[q.toNat]?).bind λ_=>c7 (f.set q.toNat w) else c7 f) (eC a):=by
    intro p q o f N v s;have z:q<(f.length:Int):=by rw[s.1];exact v.2
    rw[gH N.1 (by omega),aa,aa];refine aD (Q:=λ_=>True) (aV (λ_=>aD (Fe j.1 o A) λ_ _=>ae trivial) (λ_=>ae trivial)) λb _=>?_
    rw[gH v.1 z,aa,iD v.1 z,aa];exact dy (λ_=>ae (s.set _ (by omega))) (λ_=>ae s)
   obtain⟨W,V,L⟩:=stp r.an r.To false aK ⟨e.1,by omega⟩ ⟨e.2.2.1,by omega⟩ d;obtain⟨ac,F,J⟩:=stp r.To r.an true W ⟨e.2.2.1,by omega⟩ ⟨e.1,by omega⟩ L;obtain⟨ah,T,H⟩:=qQ V;obtain⟨al,U,E⟩:=qQ F;rw[T,aa,H,aa,U,aa,E,aa,aJ];exact ae ⟨rfl,J⟩
  .obtain⟨aK,u⟩:=c;obtain⟨rfl,d⟩:=g;dsimp only at d⊢;unfold Ii;rw[aG];exact ae d
 have I:eC l X:=⟨by rw[x.1];omega,x.2⟩;exact aD (Af K I) λr e=>ae (.inl ⟨rfl,e,by omega⟩)
def akv(a:ak)(fl:List bI)(l:ak)(x:List bI)(m:bQ)(w:Int):Ok (yg LC x a fl l m w) λq=>q.1=x/\((q.2.2=0/\eC l q.2.1.an/\l.ai.length=a.ai.length)\/(q.2.2≠0/\q.2.1=m)):=by
 unfold yg;rw[uW,aa,QM,aa,uW,aa,fh (fh (fh rfl)),aa];refine aV (λ_=>ae ⟨rfl,(.inr ⟨by simp,rfl⟩)⟩) (λn=>?_)
 have j:lq a fl:=dv λh=>n (.inl h)
 have t:ud a m:=dv λh=>n (.inr (.inl h))
 have K:lq l x:=dv λh=>n (.inr (.inr (.inl h)))
 have Z:(l.ai.length:Int)=a.ai.length:=dv λh=>n (.inr (.inr (.inr h)))
 rw[ew rfl,aa];refine aV (λ_=>ae ⟨rfl,(.inr ⟨by simp,rfl⟩)⟩) (λad=>?_)
 have ab:=j.1.1;have ag:=j.1.2.1;have R:=t.2.1;have ai:=t.2.2.1;have S:=eC.of t;rw[nS (by omega) (by omega),aa,dk];refine aD (Q:=eC a) ?_ λam M=>?_
 .refine di m.an.length (λi c=>c.2=(i:Int)/\eC a c.1) _ (λi c k g=>?_) (λc g=>?_) _ ⟨rfl,by rw[e6];exact R,λz C=>by rw[gx C];omega⟩
  .obtain⟨aK,u⟩:=c;obtain⟨rfl,d⟩:=g;dsimp only at d⊢;have af:=d.1;have C:=S.2 _ (dd k);unfold Kc;rw[aC,bn,c6 k,aa,bn,c6 (show i<aK.length by omega),aa,dk,c6 (show i<aK.length by omega),aa,aJ];exact ae ⟨rfl,d.set _ (by omega)⟩
  .obtain⟨aK,u⟩:=c;obtain⟨rfl,d⟩:=g;dsimp only at d⊢;unfold Kc;rw[aG];exact ae d
 refine aD (Q:=eC a) ?_ λX y=>?_
 .refine di a.af.length (λi c=>c.2=(i:Int)/\eC a c.1) _ (λi c k g=>?_) (λc g=>?_) _ ⟨rfl,M⟩
  .obtain⟨aK,u⟩:=c;obtain⟨rfl,d⟩:=g;dsimp only at d⊢;have e:=(j.1.2.2.2 _ (dd k)).1;have D:i<fl.length:=by rw[j.2.1];exact k
   have B:=j.2.2 _ (dd D);unfold Jl;rw[aC,bn,c6 k,aa,bn,c6 D];generalize a.af[i]=r at e;generalize fl[i]=G at B;have stp:∀(p q:Int) (o:Bool) (f:List Int),(0<=p/\p<(a.ai.length:Int))->(0<=q/\q<(a.ai.length:Int))->eC a f->Ok (((aj m.an p).bind λz=>bif c5 (z<=w) then(c7 G).bind λO=>(n6 LC a (i:Int) O o).bind λY=>c7 (c5 (0<=Y)) else c7 false).bind λP=>bif P then(aj f q).bind λ_=>(f[q.toNat]?).bind λ_=>c7 (f.set q.toNat w) else c7 f) (eC a):=by
    intro p q o f N v s;have A:q<(f.length:Int):=by rw[s.1];exact v.2
    rw[gH N.1 (by omega),aa,aa];refine aD (Q:=λ_=>True) (aV (λ_=>aD (Fe j.1 o B) λ_ _=>ae trivial) (λ_=>ae trivial)) λb _=>?_
    rw[gH v.1 A,aa,iD v.1 A,aa];exact dy (λ_=>ae (s.set _ (by omega))) (λ_=>ae s)
   obtain⟨W,V,L⟩:=stp r.an r.To false aK ⟨e.1,by omega⟩ ⟨e.2.2.1,by omega⟩ d;obtain⟨ac,F,J⟩:=stp r.To r.an true W ⟨e.2.2.1,by omega⟩ ⟨e.1,by omega⟩ L;obtain⟨ah,T,H⟩:=qQ V;obtain⟨al,U,E⟩:=qQ F;rw[T,aa,H,aa,U,aa,E,aa,aJ];exact ae ⟨rfl,J⟩
  .obtain⟨aK,u⟩:=c;obtain⟨rfl,d⟩:=g;dsimp only at d⊢;unfold Jl;rw[aG];exact ae d
 have I:eC l X:=⟨by rw[y.1];omega,y.2⟩;exact aD (Af K I) λr e=>ae ⟨rfl,(.inl ⟨rfl,e,by omega⟩)⟩
def ia(a:Int):Prop:=0<=a/\a<=2147483648
instance (a:Int):Decidable (ia a):=by unfold ia;infer_instance
def RA(a:cy):Prop:=(ia a.abv/\ia a.eB/\ia a.ku/\ia a.mZ)/\(1<=a.anS/\a.anS<=4)/\(1<=a.pB/\a.pB<=2147483648)/\(if a.sd=true then a.l9=0 else(a.ku<=a.l9/\a.l9<=2147483648)/\a.uV=false)
instance (a:cy):Decidable (RA a):=by unfold RA;infer_instance
def ahx(a:cy):Dg LC a=c7 (c5 (RA a)):=by
 unfold Dg;have m:bO (λk=>xP LC a k) 0=c7 (if ∀i,i<([a.abv,a.eB,a.ku,a.mZ]:List Int).length->(λi:Nat=>!c5 (ia (([a.abv,a.eB,a.ku,a.mZ]:List Int).getD i 0))) i=false then .inr () else .inl ()):=by
  refine oD ([a.abv,a.eB,a.ku,a.mZ]:List Int).length _ () (λi e=>?_) (by unfold xP;rfl)
  have n:i<4:=e;unfold xP;rw[aC,uu e,aa,cF,aa,aJ];show(bif (!c5 (ia _)) then _ else _)=c7 (bif !c5 (ia _) then _ else _)
  cases c5 (ia ([a.abv,a.eB,a.ku,a.mZ].getD i 0)) <;> rfl
 rw[show LC.loop (λk=>xP LC a k) 0=_ from m,aa,cF,aa,cF,aa,cF,aa,lA,fh rfl,aa]
 by_cases c:ia a.abv/\ia a.eB/\ia a.ku/\ia a.mZ
 .rw[if_pos (λi e=>by
   have e:i<4:=e;have:i=0\/i=1\/i=2\/i=3:=by omega
   have h:∀{p:Prop} [Decidable p],p->(!decide p)=false:=λb=>by rw[decide_eq_true b];rfl
   rcases this with rfl |rfl |rfl |rfl
   .exact h c.1
   .exact h c.2.1
   .exact h c.2.2.1
   .exact h c.2.2.2),ei]
  by_cases d:(1<=a.anS/\a.anS<=4)/\1<=a.pB/\a.pB<=2147483648
  .rw[aG];cases f:a.sd with
   |true=>
    simp only[cond_true]
    congr 1
    exact decide_eq_decide.2 ⟨λb=>⟨c,d.1,d.2,by rw[if_pos f];exact b⟩,λb=>by have:=b.2.2.2;rw[if_pos f] at this;exact this⟩
   |false=>
    simp only[cond_false]
    by_cases g:a.ku<=a.l9/\a.l9<=2147483648
    .rw[aC g]
     congr 1
     cases l:a.uV with
     |true=>exact(decide_eq_false (show ¬RA a from λb=>by have:=b.2.2.2;rw[if_neg (by rw[f];simp),l] at this;exact absurd this.2 (by simp))).symm
     |false=>exact(decide_eq_true (show RA a from⟨c,d.1,d.2,by rw[if_neg (by rw[f];simp)];exact⟨g,l⟩⟩)).symm
    .rw[aG g,decide_eq_false (show ¬RA a from λb=>by have:=b.2.2.2;rw[if_neg (by rw[f];simp)] at this;exact g this.1)]
  .rw[aC,decide_eq_false (show ¬RA a from λb=>d ⟨b.2.1,b.2.2.1⟩)]
 .rw[if_neg (λj=>c ⟨by simpa using j 0 (by simp),by simpa using j 1 (by simp),by simpa using j 2 (by simp),by simpa using j 3 (by simp)⟩),ft,decide_eq_false (show ¬RA a from λb=>c b.1)]
def fU(a:cy)(b c:Int):Prop:=a.abv<b\/a.abv=b/\a.eB<c
instance (a:cy) (c b:Int):Decidable (fU a c b):=by unfold fU;infer_instance
def fX(a:cy)(c b:Int):Prop:=a.abv=c/\a.eB=b
def jz(a b:cy):Prop:=fU a b.abv b.eB
instance (a b:cy):Decidable (jz a b):=by unfold jz;infer_instance
def Ia(b:cy)(e a:Int):∃h,rK LC b ⟨e,a⟩=c7 h/\(h<0↔fU b e a)/\(h=0↔fX b e a):=by
 unfold rK;dsimp only;rw[G1,aa,G1,aa];have k:CY LC [kG b.abv e,kG b.eB a]=c7 (if kG b.abv e≠0 then kG b.abv e else kG b.eB a):=by
  unfold CY;generalize kG b.abv e=d;generalize kG b.eB a=c
  by_cases f:d=0
  .rw[if_neg (λj=>j f)]
   by_cases i:c=0
   .subst f i;rw[show LC.loop (λa=>qF LC [0,0] a) 0=c7 (.inr ()) from(iO (a':=1) rfl).trans ((iO (a':=2) rfl).trans (fZ rfl))]
    rfl
   .subst f;have g:qF LC [0,c] 1=c7 (.inr (.inl c)):=by
     unfold qF;rw[aC (by simp),show aj [0,c] 1=c7 c from rfl,aa,aC i]
    rw[show LC.loop (λa=>qF LC [0,c] a) 0=c7 (.inl c) from(iO (a':=1) rfl).trans (fZ g)]
    rfl
  .rw[if_pos f];have g:qF LC [d,c] 0=c7 (.inr (.inl d)):=by
    unfold qF;rw[aC (by simp),show aj [d,c] 0=c7 d from rfl,aa,aC f]
   rw[show LC.loop (λa=>qF LC [d,c] a) 0=c7 (.inl d) from fZ g]
   rfl
 rw[k,aa];refine⟨_,rfl,?_,?_⟩
 .unfold fU kG
  split <;> split <;> (try split) <;> (try split) <;> omega
 .unfold fX kG
  split <;> split <;> (try split) <;> (try split) <;> omega
def VA(a:List cy):Prop:=a.length<=64/\(∀b∈a,RA b)/\a.Pairwise jz
noncomputable instance (a:List cy):Decidable (VA a):=m1 _
def Rl{f:Type}{R:f->f->Prop}(tr:∀a b d,R a b->R b d->R a d):∀c:List f,(∀i (e:i+1<c.length),R c[i] c[i+1])->c.Pairwise R
 |[],_=>.nil
 |[a],_=>List.pairwise_singleton R a
 |a::b::c,e=>by
  have j:=Rl tr (b::c) λi k=>e (i+1) (by simpa using k)
  have h:R a b:=e 0 (by simp);refine l4.2 ⟨λd g=>?_,j⟩
  rcases kl.1 g with rfl |g
  .exact h
  .exact tr _ _ _ h ((l4.1 j).1 d g)
def aka(a:List cy):yE LC a=c7 (c5 (VA a)):=by
 unfold yE
 by_cases j:64<(a.length:Int)
 .rw[aC j,decide_eq_false (λe=>by have:=e.1;omega)]
 rw[aG j];have r:bO (λh=>vH LC a h) 0=c7 (if ∀i,i<a.length->(λi:Nat=>match a[i]? with |some d=>c5 (¬RA d)||(match (if 0<i then a[i -1]? else j4) with |some b=>c5 (¬fU b d.abv d.eB) |none=>false) |none=>false) i=false then .inr () else .inl ()):=by
  refine oD _ _ () (λi c=>?_) (by unfold vH;rw[aG])
  unfold vH;rw[aC,bn,c6 c,aa,ahx,aa,aJ (n:=(i:Int)+1)];simp only[c6 c];have g:(bif c5 (0<(i:Int)) then(aj a (c3 c4 ((i:Int) -1))).bind λu=>(rK LC u (kC.mk a[i].abv a[i].eB)).bind λm=>c7 (c5 (0<=m)) else c7 false)=c7 (match (if 0<i then a[i -1]? else j4) with |some b=>c5 (¬fU b a[i].abv a[i].eB) |none=>false):=by
   by_cases h0:0<i
   .obtain⟨s,t,g,w⟩:=Ia (a[i -1]'(by omega)) a[i].abv a[i].eB;rw[aC,aJ,show(i:Int) -1=((i -1:Nat):Int) by omega,bn,c6 (show i -1<a.length by omega),aa,t,aa,if_pos h0];dsimp only
    congr 1
    apply decide_eq_decide.2
    rw[<-g];omega
   .rw[aG,if_neg h0]
  rw[g,M5 rfl,aa, <-decide_not];cases (c5 (¬RA a[i])||(match (if 0<i then a[i -1]? else j4) with |some b=>c5 (¬fU b a[i].abv a[i].eB) |none=>false)) <;> rfl
 rw[show LC.loop (λh=>vH LC a h) 0=_ from r,aa];have l:(∀i,i<a.length->(λi:Nat=>match a[i]? with |some d=>c5 (¬RA d)||(match (if 0<i then a[i -1]? else j4) with |some b=>c5 (¬fU b d.abv d.eB) |none=>false) |none=>false) i=false)↔VA a:=by
  constructor
  .intro e;refine⟨by omega,λd q=>?_,Rl (R:=jz) (λd b s j v=>by unfold jz fU at*;omega) a λi c=>?_⟩
   .obtain⟨i,c,rfl⟩:=e5.1 q;have:=e i c;simp only[c6 c,j3] at this;exact dv (of_decide_eq_false this.1)
   .have:=e (i+1) c;simp only[c6 c,j3,Nat.zero_lt_succ,if_true,n2,c6 (show i<a.length by omega)] at this;exact dv (of_decide_eq_false this.2)
  .rintro⟨_,p,o⟩ i c;simp only[c6 c,j3];refine⟨decide_eq_false λk=>k (p _ (dd c)),?_⟩
   by_cases h0:0<i
   .rw[if_pos h0,c6 (show i -1<a.length by omega)];exact decide_eq_false λk=>k (h7.1 o (i -1) i (by omega) c (by omega))
   .rw[if_neg h0]
 by_cases f:VA a
 .rw[if_pos (l.2 f),decide_eq_true f];rfl
 .rw[if_neg (λe=>f (l.1 e)),decide_eq_false f];rfl
def alS(d:List cy)(g f:Int)(K:d.Pairwise jz)(N:d.length<=64):Ok (Ec LC d ⟨g,f⟩) λq=>∃n:Nat,q.1=(n:Int)/\n<=d.length/\(∀(a:Nat) c,a<n->d[a]?=c7 c->fU c g f)/\(∀(a:Nat) c,n<=a->d[a]?=c7 c->¬fU c g f)/\(q.2=true->∃c,d[n]?=c7 c/\fX c g f)/\(q.2=false->∀c,d[n]?=c7 c->¬fX c g f):=by
 have z:∀(i a:Nat) c b,i<a->d[i]?=c7 c->d[a]?=c7 b->fU b g f->fU c g f:=λi a c b F e l j=>by
  obtain⟨L,rfl⟩:=dt.1 e;obtain⟨M,rfl⟩:=dt.1 l;have:=h7.1 K i a L M F;unfold jz fU at*;omega
 unfold Ec;refine aD (Q:=λp=>∃n:Nat,p=(n:Int)/\n<=d.length/\(∀(a:Nat) c,a<n->d[a]?=c7 c->fU c g f)/\(∀(a:Nat) c,n<=a->d[a]?=c7 c->¬fU c g f)) ?_ λp t=>?_
 .refine oa (λk:Int×Int=>∃i a:Nat,k=((i:Int),(a:Int))/\i<=a/\a<=d.length/\(∀(h:Nat) c,h<i->d[h]?=c7 c->fU c g f)/\(∀(h:Nat) c,a<=h->d[h]?=c7 c->¬fU c g f)) (λk=>(k.2 -k.1).toNat) _ (λk J=>?_) _ ⟨0,d.length,rfl,oS _,h8 _,λh c j=>by omega,λh c j e=>by have:=(dt.1 e).1;omega⟩
  obtain⟨i,a,rfl,O,C,E,x⟩:=J;dsimp only;unfold Rt;refine aV (λH=>?_) (λH=>?_)
  .have o:(i+a)/2<d.length:=by omega
   have G:iN .u64 (hQ.wrap (c3 c4 ((i:Int)+(a:Int)))) 1=c7 (((i+a)/2:Nat):Int):=by
    rw[aJ (n:=(i:Int)+a),mB (n:=(i:Int)+a) (by omega) (by omega),AD (by omega),show(2:Int)^ (min (1:Int).toNat hQ.bits)=2 from rfl,j1 _ (by omega)]
    congr 1
   obtain⟨k,w,s,v⟩:=Ia d[(i+a)/2] g f;rw[G,aa,aJ (n:=(((i+a)/2:Nat):Int)) (by omega) (by omega),bn,c6 o,aa,w,aa];refine aD (Q:=λp=>(k<0/\p=((((i+a)/2+1:Nat):Int),(a:Int)))\/(¬k<0/\p=((i:Int),(((i+a)/2:Nat):Int)))) (aV (λm=>?_) (λm=>ae (.inr ⟨m,rfl⟩))) λp t=>?_
   .rw[aJ];exact ae (.inl ⟨m,rfl⟩)
   .rcases t with⟨m,rfl⟩ |⟨m,rfl⟩
    .refine ae ⟨⟨(i+a)/2+1,a,rfl,by omega,C,λh c I e=>?_,x⟩,?_⟩
     .have l:=s.1 m
      by_cases u:h=(i+a)/2
      .subst u;rw[c6 o] at e;injection e with e
       subst e;exact l
      .exact z h _ c _ (by omega) e (c6 o) l
     .dsimp only;omega
    .refine ae ⟨⟨i,(i+a)/2,rfl,by omega,by omega,E,λh c I e l=>?_⟩,?_⟩
     .have B:¬fU d[(i+a)/2] g f:=λj=>m (s.2 j)
      by_cases u:h=(i+a)/2
      .subst u;rw[c6 o] at e;injection e with e
       subst e;exact B l
      .exact B (z _ h _ c (by omega) (c6 o) e l)
     .dsimp only;omega
  .have:i=a:=by omega
   subst this;exact ae ⟨i,rfl,C,E,x⟩
 .obtain⟨n,rfl,D,A,y⟩:=t
  by_cases r:n<d.length
  .obtain⟨k,w,s,v⟩:=Ia d[n] g f;rw[aC,bn,c6 r,aa,w,aa];refine ae ⟨n,rfl,D,A,y,λj=>⟨_,c6 r,v.1 (of_decide_eq_true j)⟩,λj c e=>?_⟩
   rw[c6 r] at e;injection e with e
   subst e;exact λo=>of_decide_eq_false j (v.2 o)
  .rw[aG];exact ae ⟨n,rfl,D,A,y,λj=>by simp at j,λ_ c e=>absurd (dt.1 e).1 r⟩
def ak8{f:List cy}(n:f.Pairwise jz){c:Nat}{e b:cy}(o:f[c]?=c7 e)(a:b.abv=e.abv/\b.eB=e.eB):(f.set c b).Pairwise jz:=by
 refine h7.2 λi j k l m=>?_
 rw[dT] at k l;have d:=h7.1 n i j k l m;obtain⟨p,rfl⟩:=dt.1 o;rw[oj,oj];unfold jz fU at*
 by_cases h:c=i
 .subst h;rw[if_pos rfl,if_neg (by omega),a.1,a.2];exact d
 .rw[if_neg h]
  by_cases g:c=j
  .subst g;rw[if_pos rfl,a.1,a.2];exact d
  .rw[if_neg g];exact d
def ZH{c:List cy}(j:c.Pairwise jz){a:Nat}{b:cy}(v:a<=c.length)(t:∀(d:Nat) e,d<a->c[d]?=c7 e->fU e b.abv b.eB)(m:∀(d:Nat) e,a<=d->c[d]?=c7 e->¬fU e b.abv b.eB)(o:∀e,c[a]?=c7 e->¬fX e b.abv b.eB):(c.take a++[b]++c.drop a).Pairwise jz:=by
 rw[hB,List.pairwise_append];have l:∀g,g∈c.drop a->jz b g:=λg h=>by
  obtain⟨d,k,rfl⟩:=e5.1 h;rw[h5] at k;have f:c[a+d]?=c7 ((c.drop a)[d]'(by rw[h5];exact k)):=by rw[List.getElem_drop];exact c6 (by omega)
  have q:=m (a+d) _ (by omega) f;generalize (c.drop a)[d]'(by rw[h5];exact k)=g at f q;have h0:=o _ (c6 (show a<c.length by omega));have w:=m a _ (h8 _) (c6 (show a<c.length by omega))
  by_cases s:d=0
  .subst s;rw[q7,c6 (show a<c.length by omega)] at f;injection f with f
   subst f;unfold jz fU fX at*;omega
  .obtain⟨p,rfl⟩:=dt.1 f;have:=h7.1 j a (a+d) (by omega) p (by omega);unfold jz fU fX at*;omega
 refine⟨j.sublist (List.take_sublist a c),l4.2 ⟨l,j.sublist (List.drop_sublist a c)⟩,λe r g h=>?_⟩
 obtain⟨i,n,rfl⟩:=e5.1 r;rw[ea] at n;have u:jz ((c.take a)[i]'(by rw[ea];exact n)) b:=by
  refine t i _ (by omega) ?_
  rw[o2];exact c6 (by omega)
 rcases kl.1 h with rfl |h
 .exact u
 .have:=l g h;unfold jz fU at*;omega
def apS(d:List cy)(j h p f:Int):Ok (rk LC d j h p f) λq=>(q.2≠0/\q.1=d)\/(q.2=0/\VA q.1/\(∃c,c∈q.1/\fX c j h)/\∀b,b∈d->∃c,c∈q.1/\fX c b.abv b.eB):=by
 unfold rk;rw[aka,aa,de];refine aV (λR=>?_) (λ_=>ae (.inl ⟨by simp,rfl⟩))
 obtain⟨r,o,y⟩:=R;rw[cF,aa,cF,aa,cF,aa,lA,fh (fh rfl),aa];refine aV (λ_=>ae (.inl ⟨by simp,rfl⟩)) (λk=>?_)
 have I:ia j:=by unfold ia;omega
 have H:ia h:=by unfold ia;omega
 have x:1<=p/\p<=4:=by omega
 refine aD (alS d j h y r) λq N=>?_
 obtain⟨e,C,Q,U,T,z,J⟩:=N;obtain⟨X,s⟩:=q;dsimp only at C z J⊢;subst C;rw[cF,aa];have D:s=true->e<d.length:=λk=>by obtain⟨c,a,_⟩:=z k;exact(dt.1 a).1
 by_cases v:0<=f/\f<=2147483648
 rotate_left
 .rw[decide_eq_false v];exact ae (.inl ⟨by simp,rfl⟩)
 have G:ia f:=v;rw[decide_eq_true v];simp only[fe,cond_false];have bad:∃b:Bool,(bif s then(aj d (e:Int)).bind λP=>bif c5 (f<P.ku) then c7 true else(aj d (e:Int)).bind λO=>c7 (c5 (f<O.l9)) else c7 false)=c7 b:=by
  cases s with
  |false=>exact⟨_,rfl⟩
  |true=>
   have n:=D rfl;simp only[cond_true];rw[bn,c6 n,aa,aa,ew rfl];exact⟨_,rfl⟩
 obtain⟨b,M⟩:=bad;rw[M,aa];refine dy (λ_=>ae (.inl ⟨by simp,rfl⟩)) (λ_=>?_)
 cases s with
 |false=>
  simp only[k7,cond_true];refine aV (λ_=>ae (.inl ⟨by simp,rfl⟩)) (λY=>?_)
  rw[wE (cX r (by decide)),aa];have t:D3 LC d [cy.mk j h p f 0 true false 0 1] (e:Int)=c7 (d.take e++[cy.mk j h p f 0 true false 0 1]++d.drop e):=by
   unfold D3 B2;rw[if_pos ⟨by omega,by omega,rfl⟩,dm (by decide) (by omega),aa,dk]
  rw[t,aa];refine ae (.inr ⟨rfl,⟨?_,λc a=>?_,ZH y Q U T (J rfl)⟩,⟨cy.mk j h p f 0 true false 0 1,by simp,rfl,rfl⟩,λc a=>⟨c,?_,rfl,rfl⟩⟩)
  .simp only[eo,ea,h5,ez,hL];omega
  .rcases e4.1 a with a |a
   .rcases e4.1 a with a |a
    .exact o c (List.mem_of_mem_take a)
    .rw[e0] at a;subst a;exact⟨⟨I,H,G,by show(0:Int)<=0/\(0:Int)<=2147483648;omega⟩,x,⟨by show(1:Int)<=1;omega,by show(1:Int)<=2147483648;omega⟩,by simp⟩
   .exact o c (List.mem_of_mem_drop a)
  .have:c∈d.take e++d.drop e:=by rw[List.take_append_drop];exact a
   rcases e4.1 this with k |k
   .simp[k]
   .simp[k]
 |true=>
  simp only[fe,cond_false];obtain⟨c,a,w⟩:=z rfl;have n:=D rfl;have V:=o c (fC a);rw[wE (cX r (by decide)),aa,bn,a,aa,dk,a];simp only[aa];have fin:∀g:cy,g.abv=c.abv/\g.eB=c.eB->RA g->Ok (c7 (d.set e g,(0:Int))) λq=>(q.2≠0/\q.1=d)\/(q.2=0/\VA q.1/\(∃c,c∈q.1/\fX c j h)/\∀b,b∈d->∃c,c∈q.1/\fX c b.abv b.eB):=λg l L=>by
   refine ae (.inr ⟨rfl,⟨by rw[dT];exact r,λF m=>?_,ak8 y a l⟩,⟨g,q8 n g,by unfold fX at*;rw[l.1,l.2];exact w⟩,λF m=>?_⟩)
   .rcases ev m with m |rfl
    .exact o F m
    .exact L
   .obtain⟨i,K,rfl⟩:=e5.1 m
    by_cases t:e=i
    .subst t;rw[c6 K] at a;injection a with a
     exact⟨g,q8 n g,by unfold fX;rw[l.1,l.2,a];exact⟨rfl,rfl⟩⟩
    .exact⟨d[i],hP.2 ⟨i,by rw[hq t];exact c6 K⟩,rfl,rfl⟩
  obtain⟨u,S,E,A⟩:=V;rw[de];refine dy (λB=>?_) (λB=>?_)
  .refine aV (λW=>?_) (λ_=>?_)
   .rw[gv n,aa,set_set];rw[if_pos B] at A;exact fin _ ⟨rfl,rfl⟩ ⟨⟨u.1,u.2.1,u.2.2.1,by unfold ia;dsimp only;omega⟩,x,E,by rw[if_pos B];exact A⟩
   .have:=fin c ⟨rfl,rfl⟩ ⟨u,S,E,A⟩;rw[ou a] at this;exact this
  .rw[aJ];exact fin _ ⟨w.1.symm,w.2.symm⟩ ⟨⟨I,H,G,by unfold ia;dsimp only;omega⟩,x,⟨by dsimp only;omega,by dsimp only;omega⟩,by simp⟩
def uJ(a:List Int):Prop:=(1<=(a.length:Int)/\(a.length:Int)<=12)/\cj 0 127 a
instance (a:List Int):Decidable (uJ a):=by unfold uJ;infer_instance
def Nq{a:List Int}(b:Fit a):xa LC a=c7 (c5 (uJ a)):=by
 unfold xa;rw[cF,aa,kw _ _ _ b,aa];exact fm rfl
def ff(b:bA):Prop:=uJ b.af/\b.aa2.length=b.af.length/\(∀a,a∈b.aa2->0<=a/\a<=2)/\(b.Out=true->∀a,a∈b.aa2->a=2)
instance (a:bA):Decidable (ff a):=by unfold ff;infer_instance
def QJ{a:bA}(e:Fit a.aa2):yh LC a=c7 (c5 (∀c,c∈a.aa2->c=2)):=by
 unfold yh IU JN;have:=fF (l:=a.aa2) (P:=λd=>CE LC d) (p:=λc=>!c5 (c=2)) (f:=λb=>JW LC a.aa2 b) e (λd g=>by
  unfold CE;rw[<-decide_not]) (λb=>rfl)
 rw[show(LC.loop (λb=>JW LC a.aa2 b) 0).bind _=_ from this,aa,gm,aa,ot]
def tA{a:bA}(j:Fit a.af):oL LC a=c7 (c5 (ff a)):=by
 unfold oL;rw[Nq j,aa]
 by_cases d:uJ a.af
 rotate_left
 .rw[aG d,decide_eq_false (λb=>d b.1)]
 rw[aC d]
 by_cases h:(a.aa2.length:Int)=(a.af.length:Int)
 rotate_left
 .rw[aG h,decide_eq_false (λb=>h (by have:=b.2.1;omega))]
 have m:Fit a.aa2:=by show a.aa2.length<=_;have:a.af.length<=_:=j;omega
 have n:zw LC a.aa2=c7 (a.aa2.any λc=>!c5 (0<=c/\c<=2)):=by
  unfold zw F6;have:=fF (l:=a.aa2) (P:=λi=>zz LC i) (p:=λc=>!c5 (0<=c/\c<=2)) (f:=λg=>It LC a.aa2 g) m (λi o=>by
   unfold zz;rw[cF,aa]) (λg=>rfl)
  rw[show(LC.loop (λg=>It LC a.aa2 g) 0).bind _=_ from this,aa,gm]
 rw[aC h,n,aa,ot]
 by_cases e:∀c,c∈a.aa2->0<=c/\c<=2
 rotate_left
 .rw[aG e,decide_eq_false (λb=>e b.2.2.1)]
 rw[aC e,QJ m,aa];cases k:a.Out with
 |false=>simp only[k7,cond_true];rw[decide_eq_true (show ff a from⟨d,by omega,e,λb=>by rw[k] at b;cases b⟩)]
 |true=>
  simp only[fe,cond_false]
  congr 1
  exact decide_eq_decide.2 ⟨λb=>⟨d,by omega,e,λ_=>b⟩,λb=>b.2.2.2 k⟩
def ff.sm{k:bA}(h:ff k):Sm k.af/\Sm k.aa2:=⟨cX (n:=12) (by have:=h.1.1;omega) (by decide),cX (n:=12) (by have:=h.1.1;have:=h.2.1;omega) (by decide)⟩
def Dx{k:bA}(i a b:Int)(j:Fit k.af):Ok (qO LC k i a b) λq=>(q.2≠0/\q.1=k)\/(q.2=0/\ff k/\0<=i/\k.aa2[i.toNat]?=c7 a/\k.Out=false/\q.1=⟨k.af,k.aa2.set i.toNat b,false⟩):=by
 unfold qO;rw[tA j,aa,de];refine aV (λc=>?_) (λ_=>ae (.inl ⟨by simp,rfl⟩))
 have l:=c.1.1;have m:=c.2.1;rw[aJ,cF,aa,de];refine aV (λf=>?_) (λ_=>ae (.inl ⟨by simp,rfl⟩))
 have d:k.aa2[i.toNat]?=c7 (k.aa2[i.toNat]'(by omega)):=c6 (by omega);generalize k.aa2[i.toNat]'(by omega)=v at d;have g:aj k.aa2 i=c7 v:=by unfold aj;rw[if_pos f.1];exact d
 unfold IL;rw[g,aa,bV c.sm.1,aa,bV c.sm.2,aa,aa];dsimp only;rw[g,aa,d,aa]
 by_cases e:v≠a
 .rw[aC e,aa];exact ae (.inl ⟨by simp,rfl⟩)
 .rw[aG e,aa];refine dy (λ_=>ae (.inl ⟨by simp,rfl⟩)) (λh=>ae (.inr ⟨rfl,c,f.1,?_,h,by rw[h]⟩))
  rw[ej.1 e]
def ff.move{k:bA}(h:ff k){i:Nat}{b:Int}(c:0<=b/\b<=2):ff ⟨k.af,k.aa2.set i b,false⟩:=⟨h.1,by show(k.aa2.set i b).length=_;rw[dT];exact h.2.1,λn a=>by
 rcases ev (show n∈k.aa2.set i b from a) with a |rfl
 .exact h.2.2.1 n a
 .exact c,λh=>by cases h⟩
def ap1{k:bA}(d:Fit k.af):Ok (Cu LC k) λq=>(q.2≠0/\q.1=k)\/(q.2=0/\ff k/\k.Out=false/\(∀a,a∈k.aa2->a=2)/\q.1=⟨k.af,k.aa2,true⟩):=by
 unfold Cu;refine aD (Q:=λq=>(q.2≠0/\q.1=k)\/(q.2=0/\ff k/\k.Out=false/\(∀a,a∈k.aa2->a=2)/\q.1=⟨k.af,k.aa2,true⟩)) ?_ λq e=>ae e
 unfold xi;rw[tA d,aa,de];refine aV (λb=>?_) (λ_=>ae (.inl ⟨by simp,rfl⟩))
 unfold EA;rw[QJ (by show k.aa2.length<=_;have:=jZ b.sm.2;omega),bV b.sm.1,bV b.sm.2];simp only[aa];cases f:k.Out with
 |true=>exact ae (.inl ⟨by simp,rfl⟩)
 |false=>
  simp only[cond_true,show(false==true)=false from rfl,cond_false,aa,de];exact aV (λc=>ae (.inr ⟨rfl,b,by simp,c,rfl⟩)) (λ_=>ae (.inl ⟨by simp,rfl⟩))
def Zw{k:bA}(c:Fit k.af):Ok (vQ LC k) λq=>(q.2≠0/\q.1=k)\/(q.2=0/\ff k/\q.1=⟨k.af,k.aa2,false⟩):=by
 unfold vQ;refine aD (Q:=λq=>(q.2≠0/\q.1=k)\/(q.2=0/\ff k/\q.1=⟨k.af,k.aa2,false⟩)) ?_ λq b=>ae b
 unfold xi;rw[tA c,aa,de];refine aV (λa=>?_) (λ_=>ae (.inl ⟨by simp,rfl⟩))
 unfold EA;rw[bV a.sm.1,bV a.sm.2];simp only[aa];cases d:k.Out with
 |false=>exact ae (.inl ⟨by simp,rfl⟩)
 |true=>
  simp only[show(true==false)=false from rfl,cond_false,aa];exact ae (.inr ⟨rfl,a,rfl⟩)
def O5{k:bA}(u:k.af.length<=100)(t:k.aa2.length<=100):Ok (yA LC k) λe=>e.length<=k.af.length/\∀r,r∈e↔∃(i:Nat) (n:Int),k.af[i]?=c7 r/\k.aa2[i]?=c7 n/\n≠0:=by
 unfold yA;refine aD (Q:=λe=>e.length<=k.af.length/\∀r,r∈e↔∃(i:Nat) (n:Int),k.af[i]?=c7 r/\k.aa2[i]?=c7 n/\n≠0) ?_ λe s=>?_
 .refine di k.af.length (λi f=>f.2=(i:Int)/\f.1.length<=i/\∀r,r∈f.1↔∃(a:Nat) (n:Int),a<i/\k.af[a]?=c7 r/\k.aa2[a]?=c7 n/\n≠0) _ (λi f y p=>?_) (λf p=>?_) _ ⟨rfl,h8 _,λr=>⟨λd=>(by cases d),λ⟨a,n,d,_⟩=>by omega⟩⟩
  .obtain⟨e,x⟩:=f;obtain⟨rfl,l,g⟩:=p;dsimp only at l g⊢;have h:k.af[i]?=c7 k.af[i]:=c6 y;generalize k.af[i]=z at h;unfold HU;rw[aC,bn,h,aa];have c:(bif c5 ((i:Int)<(k.aa2.length:Int)) then(aj k.aa2 (i:Int)).bind λw=>c7 (c5 (w≠0)) else c7 false)=c7 (c5 (∃n,k.aa2[i]?=c7 n/\n≠0)):=by
    by_cases d:(i:Int)<(k.aa2.length:Int)
    .have v:k.aa2[i]?=c7 (k.aa2[i]'(by omega)):=c6 (by omega);generalize k.aa2[i]'(by omega)=n at v;rw[aC d,bn,v,aa]
     congr 1
     exact decide_eq_decide.2 ⟨λq=>⟨n,rfl,q⟩,λ⟨A,c,q⟩=>by injection c with c;subst c;exact q⟩
    .rw[aG d]
     congr 1
     exact(decide_eq_false λ⟨n,c,_⟩=>by rw[ih (by omega)] at c;cases c).symm
   rw[c,aa]
   by_cases d:∃n,k.aa2[i]?=c7 n/\n≠0
   .rw[aC d,dm (by decide) (by omega),aa,aa,aJ];refine ae ⟨rfl,by simp;omega,λr=>?_⟩
    dsimp only;rw[e4,g,e0]
    constructor
    .rintro(⟨a,n,m,b⟩ |rfl)
     .exact⟨a,n,by omega,b⟩
     .obtain⟨n,u,t⟩:=d;exact⟨i,n,by omega,h,u,t⟩
    .rintro⟨a,n,m,b,o,j⟩
     by_cases c:a=i
     .subst c;rw[h] at b;injection b with b;exact .inr b.symm
     .exact .inl ⟨a,n,by omega,b,o,j⟩
   .rw[aG d,aa,aJ];refine ae ⟨rfl,by dsimp only;omega,λr=>?_⟩
    dsimp only;rw[g]
    constructor
    .rintro⟨a,n,m,b⟩;exact⟨a,n,by omega,b⟩
    .rintro⟨a,n,m,b,o,j⟩
     by_cases c:a=i
     .subst c;exact absurd ⟨n,o,j⟩ d
     .exact⟨a,n,by omega,b,o,j⟩
  .obtain⟨e,x⟩:=f;obtain⟨rfl,l,g⟩:=p;dsimp only at l g⊢;unfold HU;rw[aG];refine ae ⟨l,λr=>?_⟩
   rw[g];exact⟨λ⟨a,n,m,b⟩=>⟨a,n,b⟩,λ⟨a,n,b⟩=>⟨a,n,(dt.1 b.1).1,b⟩⟩
 .rw[zF (cX (n:=100) (by omega) (by decide)),aa];exact ae ⟨by rw[uP];exact s.1,λr=>by rw[(uK e).mem_iff];exact s.2 r⟩
def rR(a:cd):Prop:=a.bT.length≠0/\cj 0 63 a.bT/\(1<=a.dZ/\a.dZ<=100000)/\1<=a.ed/\a.ed<=100000
instance (a:cd):Decidable (rR a):=by unfold rR;infer_instance
def mW(a:b7):Prop:=(0<=a.aa0/\a.aa0<=2147483648)/\(if a.State=0 then a.dD=0/\a.akU=0/\a.aa0=0 else if a.State=1 then 0<a.dD/\a.akU=0 else(a.State=2\/a.State=3\/a.State=4)/\0<a.dD/\0<a.akU/\a.dD≠a.akU)
instance (a:b7):Decidable (mW a):=by unfold mW;infer_instance
def AH{g:cd}{a:b7}(o:Fit g.bT):oT LC g a=c7 (c5 (rR g/\mW a)):=by
 unfold oT;rw[kw _ _ _ o,aa,cF,aa,cF,aa,cF,aa,lA,fh (fh (fh rfl)),ew rfl,aa]
 by_cases c:rR g/\0<=a.aa0/\a.aa0<=2147483648
 rotate_left
 .rw[aC (by
   refine dv λf=>c ?_
   simp only[not_or,ej] at f;exact⟨⟨by omega,f.2.1,f.2.2.1,f.2.2.2.1⟩,f.2.2.2.2⟩),decide_eq_false (λb=>c ⟨b.1,b.2.1⟩)]
 obtain⟨h,i⟩:=c;rw[aG (by
  have q:=h.1;rintro(b |b |b |b |b)
  .omega
  .exact b h.2.1
  .exact b h.2.2.1
  .exact b h.2.2.2
  .exact b i)]
 have fin:∀(p:Prop) [Decidable p],((if a.State=0 then a.dD=0/\a.akU=0/\a.aa0=0 else if a.State=1 then 0<a.dD/\a.akU=0 else(a.State=2\/a.State=3\/a.State=4)/\0<a.dD/\0<a.akU/\a.dD≠a.akU)↔p)->c7 (decide p)=c7 (c5 (rR g/\mW a)):=λp _ b=>by
  congr 1
  exact decide_eq_decide.2 ⟨λk=>⟨h,i,b.2 k⟩,λl=>b.1 l.2.2⟩
 by_cases h0:a.State=0
 .rw[aC h0];rw[<-fin (a.dD=0/\a.akU=0/\a.aa0=0) (by rw[if_pos h0])]
  congr 1
  rw[h0]
  by_cases j:a.dD=0 <;> by_cases d:a.akU=0 <;> by_cases e:a.aa0=0 <;> simp[j,d,e]
 rw[aG h0]
 by_cases c:a.State=1
 .rw[aC c];rw[<-fin (0<a.dD/\a.akU=0) (by rw[if_neg h0,if_pos c])];exact fm rfl
 rw[aG c];rw[<-fin ((a.State=2\/a.State=3\/a.State=4)/\0<a.dD/\0<a.akU/\a.dD≠a.akU) (by rw[if_neg h0,if_neg c])];have m:(bif c5 (a.State=2) then c7 (c5 (a.State=2)) else(bif c5 (a.State=3) then c7 (c5 (a.State=3)) else c7 (c5 (a.State=4))).bind λn=>c7 n)=c7 (c5 (a.State=2\/a.State=3\/a.State=4)):=by
  by_cases d:a.State=2
  .rw[aC d,decide_eq_true d,decide_eq_true (.inl d)]
  .rw[aG d]
   by_cases e:a.State=3
   .rw[aC e,aa,decide_eq_true e,decide_eq_true (.inr (.inl e))]
   .rw[aG e,aa]
    congr 1
    exact decide_eq_decide.2 ⟨λb=>.inr (.inr b),λb=>by omega⟩
 rw[m,aa];exact fm (fm (fm rfl))
def rz(a:cd)(c:bA)(b:aL):Prop:=rR a/\ff c/\c.Out=true/\b.aA≠[]/\D1 b a.bT
def aeN{c:cd}{d:bA}{b:aL}(f:Fit c.bT)(l:Fit d.af)(k:gF b):Ok (Ah LC c d b) λv=>v=true->rz c d b:=by
 unfold Ah;rw[AH f,aa];refine aV (λg=>?_) (λ_=>ae λa=>by cases a)
 rw[tA l,aa];refine aV (λi=>?_) (λ_=>ae λa=>by cases a)
 refine dy (λh=>?_) (λ_=>ae λa=>by cases a)
 refine aV (λe=>?_) (λ_=>ae λa=>by cases a)
 rw[Vo k f,aa];exact ae λa=>⟨g.1,i,h,λj=>by rw[j] at e;simp at e,of_decide_eq_true a⟩
def B5{r:jf}(c:Bool)(d:Fit r.x.bT)(e:Fit r.k.af)(j:gF r.b):Ok (si LC r c) λb=>b=0->mW r.s/\r.s.State=r.from_/\(r.s.aa0<=r.t/\r.t<=2147483648)/\c=false/\rz r.x r.k r.b:=by
 unfold si;rw[AH d,aa,de];refine aV (λf=>?_) (λ_=>ae λa=>by cases a)
 refine aV (λ_=>ae λa=>by cases a) (λg=>?_)
 unfold zd;have b:(bif c5 (r.s.aa0<=r.t) then c7 (c5 (r.t<=2147483648)) else c7 false)=c7 (c5 (r.s.aa0<=r.t/\r.t<=2147483648)):=fm rfl;rw[b,aa,lA,ew rfl,aa];refine aV (λ_=>ae λa=>by cases a) (λm=>?_)
 refine dy (λ_=>ae λa=>by cases a) (λh=>?_)
 refine aD (Q:=λ_=>True) (aV (λ_=>ae trivial) (λ_=>ae trivial)) λl _=>?_
 refine dy (λ_=>ae λa=>by cases a) (λ_=>?_)
 rw[tA e,aa];refine aD (Q:=λ_=>True) (dy (λ_=>ae trivial) (λ_=>ae trivial)) λl _=>?_
 refine dy (λ_=>ae λa=>by cases a) (λ_=>?_)
 refine aD (aeN d e j) λv k=>?_
 rw[de];refine dy (λi=>ae λ_=>⟨f.2,ej.1 g,by omega,h,k i⟩) (λ_=>ae λa=>by cases a)
def ao0{x:cd}{s:b7}{k:bA}{b:aL}(i d:Int)(l:Fit x.bT)(n:Fit k.af)(m:gF b):Ok (BR LC x s k b i d) λq=>(q.2≠0/\q.1=s)\/(q.2=0/\mW q.1/\q.1.State=1/\rz x k b):=by
 unfold BR;refine aD (B5 (r:=jf.mk x s k b d 0) _ l n m) λp h=>?_
 refine aV (λa=>ae (.inl ⟨a,rfl⟩)) (λa=>?_)
 obtain⟨e,o,f,c,j⟩:=h (ej.1 a);have c:=of_decide_eq_false c;have g:=e.1;dsimp only at f g;exact ae (.inr ⟨rfl,⟨by dsimp only;omega,by rw[if_neg (by simp),if_pos rfl];exact⟨by dsimp only;omega,rfl⟩⟩,rfl,j⟩)
def ajE{x:cd}{s:b7}{k:bA}{b:aL}(i f:Int)(n:Fit x.bT)(p:Fit k.af)(o:gF b):Ok (AJ LC x s k b i f) λq=>(q.2≠0/\q.1=s)\/(q.2=0/\mW q.1/\q.1.State=2/\rz x k b):=by
 unfold AJ;refine aD (Q:=λa=>a=0->mW s/\s.State=1/\(s.aa0<=f/\f<=2147483648)/\(0<i/\i≠s.dD)/\rz x k b) ?_ λa e=>?_
 .refine aV (λd=>?_) (λd=>?_)
  .refine aD (B5 (r:=jf.mk x s k b f 1) _ n p o) λa e=>ae λh0=>?_
   obtain⟨_,_,_,c,_⟩:=e h0;cases c
  .refine aD (B5 (r:=jf.mk x s k b f 1) _ n p o) λa e=>ae λh0=>?_
   obtain⟨g,h,l,c,j⟩:=e h0;exact⟨g,h,l,⟨by omega,of_decide_eq_false c⟩,j⟩
 .refine aV (λd=>ae (.inl ⟨d,rfl⟩)) (λd=>?_)
  obtain⟨g,h,l,c,j⟩:=e (ej.1 d);obtain⟨t,m⟩:=g;rw[if_neg (by omega),if_pos h] at m;exact ae (.inr ⟨rfl,⟨by dsimp only;omega,by rw[if_neg (by simp),if_neg (by simp)];exact⟨.inl rfl,m.1,c.1,λa=>c.2 a.symm⟩⟩,rfl,j⟩)
def X1{x:cd}{s:b7}{k:bA}{b:aL}(f:Int)(m:Bool)(j:Fit x.bT)(n:Fit k.af)(l:gF b):Ok (CM LC x s k b f m) λq=>(q.2≠0/\q.1=s)\/(q.2=0/\mW q.1/\(q.1.State=3\/q.1.State=4)/\rz x k b):=by
 unfold CM;refine aD (B5 (r:=jf.mk x s k b f 2) _ j n l) λp i=>?_
 refine aV (λc=>ae (.inl ⟨c,rfl⟩)) (λc=>?_)
 obtain⟨d,h,g,_,e⟩:=i (ej.1 c);dsimp only at d h g;obtain⟨o,a⟩:=d;rw[if_neg (by omega),if_neg (by omega)] at a;refine dy (λ_=>ae (.inr ⟨rfl,⟨by dsimp only;omega,?_⟩,.inr rfl,e⟩)) (λ_=>ae (.inr ⟨rfl,⟨by dsimp only;omega,?_⟩,.inl rfl,e⟩))
 .rw[if_neg (by simp),if_neg (by simp)];exact⟨.inr (.inr rfl),a.2⟩
 .rw[if_neg (by simp),if_neg (by simp)];exact⟨.inr (.inl rfl),a.2⟩
def Yc{x:cd}{s:b7}(b:Int)(a:Fit x.bT):Ok (BY LC x s b) λq=>(q.2≠0/\q.1=s)\/(q.2=0/\q.1=⟨0,0,0,0⟩):=by
 unfold BY;rw[AH a,aa,de];refine aV (λd=>?_) (λ_=>ae (.inl ⟨by simp,rfl⟩))
 refine aV (λ_=>ae (.inl ⟨by simp,rfl⟩)) (λe=>?_)
 refine aD (Q:=λ_=>True) (by unfold zd;exact aV (λ_=>ae trivial) (λ_=>ae trivial)) λc _=>?_
 rw[de];refine dy (λ_=>?_) (λ_=>ae (.inl ⟨by simp,rfl⟩))
 refine aD (Q:=λ_=>True) (aV (λ_=>ae trivial) (λ_=>ae trivial)) λc _=>?_
 exact dy (λ_=>ae (.inl ⟨by simp,rfl⟩)) (λ_=>ae (.inr ⟨rfl,rfl⟩))
def Xp:mW ⟨0,0,0,0⟩:=⟨by decide,by rw[if_pos rfl];exact⟨rfl,rfl,rfl⟩⟩
def kb(r:aT):Prop:=(0<=r.agX/\r.agX<=31)/\(0<=r.aj6/\r.aj6<=65535)/\(0<=r.aa0/\r.aa0<=2147483648)/\r.aw.length<=20/\cj 1 65535 r.aw
instance (r:aT):Decidable (kb r):=by unfold kb;infer_instance
def xF{r:aT}(f:Fit r.aw):lQ LC r=c7 (c5 (kb r)):=by
 unfold lQ;rw[cF,aa,cF,aa,cF,aa,kw _ _ _ f,aa,fm (fm (fm (fm rfl)))]
 congr 1
 apply decide_eq_decide.2
 unfold kb
 constructor
 .rintro⟨a,c,b,e,d⟩;exact⟨a,c,b,by omega,d⟩
 .rintro⟨a,c,b,e,d⟩;exact⟨a,c,b,by omega,d⟩
def fp(a:Int):Nat->List Int
 |0=>[]
 |b+1=>(a/256^b%256)::fp a b
def ly(b:Int):∀a,(fp b a).length=a
 |0=>rfl
 |a+1=>by unfold fp;rw[ez,ly b a]
def AO(b:Int):∀a,Bytes (fp b a)
 |0=>Bytes.nil
 |a+1=>by unfold fp;exact Bytes.cons (by omega) (AO b a)
def Qv:∀i:Nat,(2:Int)^ (8*i)=256^i
 |0=>rfl
 |i+1=>by rw[show 8*(i+1)=8*i+8 by omega,Int.pow_add,Qv i,o3];rfl
def IY(i:Nat):(0:Int)<256^i:=Int.pow_pos (by decide)
def put_eq(c:Int)(h0:0<=c)(k:c<=18446744073709551615):∀(a:Nat) (b:List Int),a<=8->b.length<=1000->py LC b c (a:Int)=c7 (b++fp c a):=by
 intro a b e h;unfold py;have f:∀(a:Nat) (b:List Int),a<=8->b.length<=1000+(8 -a)->bO (λd:List Int×Int=>vM LC c d.1 d.2) (b,(a:Int) -1)=c7 (b++fp c a):=by
  intro a
  induction a with
  |zero=>
   intro b _ _;refine fZ ?_
   dsimp only;unfold vM;rw[aG];simp[fp]
  |succ a j=>
   intro b e h;have l:=IY a;have g:iN .u64 c (hQ.wrap (c3 c4 (8*(((a+1:Nat):Int) -1))))=c7 (c/256^a):=by
    rw[show 8*(((a+1:Nat):Int) -1)=((8*a:Nat):Int) by omega,aJ,mB (by omega) (by omega),AD (by omega),dk,Nat.min_eq_left (show 8*a<=hQ.bits by show 8*a<=64;omega),Qv,j1 _ (by omega)]
   have m:0<=c/256^a:=p4 h0 (by omega);have n:c/256^a<=c:=oi _ h0;have i:IntKind.u8.wrap (c/256^a)=c/256^a%256:=by
    unfold IntKind.wrap;simp[IntKind.bits,IntKind.signed]
   rw[iO (a':=(b++[c/256^a%256],(a:Int) -1))]
   .rw[j _ (by omega) (by simp;omega),hB]
    rfl
   .dsimp only;unfold vM;rw[aC,g,aa,i,dm (by decide) (by omega),aa,aJ]
    congr 3
    omega
 have:=f a b e (by omega);rw[aJ,show LC.loop (λd:List Int×Int=>vM LC c d.1 d.2) (b,(a:Int) -1)=_ from this,aa]
def l7(a:List Int):Int:=a.foldl (λc b=>c*256+b) 0
def VV(c b:Int)(h0:0<=c)(g:c*256+255<=18446744073709551615)(f:0<=b/\b<=255):bits .or .u64 (c*256) b=c*256+b:=by
 obtain⟨a,rfl⟩:=j6 h0;obtain⟨d,rfl⟩:=j6 f.1;have e:(a:Int)*256=((a*256:Nat):Int):=by omega
 rw[e];show hQ.wrap ((m3 64 ((a*256:Nat):Int) ||| m3 64 (d:Int)).toNat:Int)=_
 rw[BitVec.toNat_or,j2,j2,j5,j5,kh (by omega),kh (by omega)];have:a*256 ||| d=a*256+d:=by
  have:=Nat.shiftLeft_add_eq_or_of_lt (i:=8) (b:=d) (by omega) a;rw[Nat.shiftLeft_eq] at this;exact this.symm
 rw[this,mB (by omega) (by omega)];omega
def L8:∀(c:List Int) (a:Int),Bytes c->0<=a->0<=c.foldl (λa b=>a*256+b) a/\c.foldl (λa b=>a*256+b) a<(a+1)*256^c.length
 |[],a,_,g=>by simp only[List.foldl_nil,hL,Int.pow_zero,Int.mul_one];omega
 |d::c,a,e,g=>by
  have l:=e d (by simp);obtain⟨f,h⟩:=L8 c (a*256+d) (λj i=>e j (by simp[i])) (by omega);rw[p6,ez,o3];refine⟨f,Int.lt_of_lt_of_le h ?_⟩
  have k:=IY c.length;have:(a*256+d+1)*256^c.length<=((a+1)*256)*256^c.length:=Int.mul_le_mul_of_nonneg_right (by omega) (by omega);rw[n0] at this;rw[o4 (256^c.length) 256];exact this
def FY(a:List Int)(h:Bytes a)(t:a.length<=7):jQ LC a=c7 (l7 a):=by
 unfold jQ;have l:=nV (f:=λd:Int×Int=>zf LC a d.1 d.2) a.length (λi=>(l7 (a.take i),(i:Int))) (l7 a) (λi c=>by
  dsimp only;have e:=h _ (dd c);have b:=c6 c;generalize a[i]=g at e b;have o:=L8 (a.take i) 0 (h.take i) (ey 0);have j:(a.take i).length=i:=by rw[ea];omega
  rw[j] at o;have s:(256:Int)^i<=256^6:=by
   have:=Nat.pow_le_pow_right (show 256>0 by decide) (show i<=6 by omega);have r:((256^i:Nat):Int)=(256:Int)^i:=by rw[p7];rfl
   have p:((256^6:Nat):Int)=(256:Int)^6:=by rw[p7];rfl
   omega
  have q:(256:Int)^6=281474976710656:=rfl;have m:0<=l7 (a.take i)/\l7 (a.take i)<281474976710656:=by unfold l7;omega
  unfold zf;rw[aC,bn,b,aa,ahO (by omega),show(2:Int)^ (min (8:Int).toNat hQ.bits)=256 from rfl,mB (n:=l7 (a.take i)*256) (by omega) (by omega),aa,mB (n:=g) (by omega) (by omega),VV _ _ m.1 (by omega) e,aJ];have k:l7 (a.take (i+1))=l7 (a.take i)*256+g:=by
   unfold l7;rw[iE b,List.foldl_append]
   rfl
  rw[k]
  rfl) (by
  dsimp only;unfold zf;rw[aG,gy])
 exact dL l
def SS(c:Int)(h0:0<=c):∀(a:Nat) (d:Int),(fp c a).foldl (λd b=>d*256+b) d=d*256^a+c%256^a
 |0,d=>by simp[fp]
 |a+1,d=>by
  unfold fp;rw[p6,SS c h0 a,o3,Int.add_mul];have k:=IY a;have f:c%(256^a*256)=c/256^a%256*256^a+c%256^a:=by
   have e:=kc c (256^a*256);have m:=kc c (256^a);have i:=kc (c/256^a) 256;have h:c/ (256^a*256)=c/256^a/256:=(Int.ediv_ediv_of_nonneg (by omega)).symm;rw[h] at e;have g:256^a*256*(c/256^a/256)=256^a*(256*(c/256^a/256)):=n0 _ _ _;rw[g] at e;have l:256^a*(c/256^a)=256^a*(c/256^a%256)+256^a*(256*(c/256^a/256)):=by rw[<-Int.mul_add,i]
   have j:c/256^a%256*256^a=256^a*(c/256^a%256):=o4 _ _;omega
  rw[f,n0,o4 256 (256^a)];omega
def IV{n:Int}{k:Nat}(h0:0<=n)(a:n<256^k):l7 (fp n k)=n:=by
 unfold l7;rw[SS n h0,q5,m4,Int.emod_eq_of_lt h0 a]
def jI(b:List Int):List Int:=b.flatMap λa=>fp a 2
def jr(r:aT):List Int:=fp r.aj6 2++fp r.aa0 6++[(r.aw.length:Int)]++jI r.aw
def Gp(a:List Int):(jI a).length=2*a.length:=by
 induction a with
 |nil=>rfl
 |cons c a b=>unfold jI at b⊢;rw[o6,eo,b,ly,ez];omega
def WJ{r:aT}(s:Fit r.aw):Ex LC r=if kb r then c7 (⟨r.agX,9,jr r⟩,0) else c7 (⟨0,0,[]⟩,6):=by
 unfold Ex;rw[xF s,aa,de]
 by_cases a:kb r
 rotate_left
 .rw[aG a,if_neg a]
 rw[aC a,if_pos a];obtain⟨u,l,g,v,t⟩:=a;have k:=put_eq r.aj6 l.1 (by omega) 2 [] (by decide) (by simp);have h:=put_eq r.aa0 g.1 (by omega) 6 (fp r.aj6 2) (by decide) (by rw[ly];omega);rw[mB (n:=r.aj6) (by omega) (by omega),show py LC [] r.aj6 2=_ from k,aa,mB (n:=r.aa0) (by omega) (by omega),m6,show py LC (fp r.aj6 2) r.aa0 6=_ from h,aa,w8 (by omega) (by omega),dm (by decide) (by simp only[eo,ly];omega),aa];have p:=nV (f:=λb:List Int×Int=>wg LC r b.1 b.2) r.aw.length (λi=>(fp r.aj6 2++fp r.aa0 6++[(r.aw.length:Int)]++jI (r.aw.take i),(i:Int))) (jr r) (λi e=>by
  dsimp only;have q:=t.mem (dd e);have d:=c6 e;generalize r.aw[i]=c at q d;unfold wg;have j:=put_eq c (by omega) (by omega) 2 (fp r.aj6 2++fp r.aa0 6++[(r.aw.length:Int)]++jI (r.aw.take i)) (by decide) (by simp only[eo,ly,Gp,ea,ez,hL];omega);rw[aC,bn,d,aa,mB (n:=c) (by omega) (by omega),show py LC _ c 2=_ from j,aa,aJ];have m:jI (r.aw.take (i+1))=jI (r.aw.take i)++fp c 2:=by
   unfold jI;rw[iE d,List.flatMap_append];simp
  rw[m,hB (_++_++_) (jI _)]
  rfl) (by
  dsimp only;unfold wg;rw[aG,gy]
  rfl)
 have o:LC.loop (λb:List Int×Int=>wg LC r b.1 b.2) (fp r.aj6 2++fp r.aa0 6++[(r.aw.length:Int)],0)=c7 (jr r):=by
  have:=p;simpa[jI] using this
 rw[o,aa]
def WL(r:aT):(jr r).length=9+2*r.aw.length:=by
 unfold jr;simp only[eo,ly,Gp,ez,hL]
def Pl:∀b:List Int,lj (jI b)=b.map λa=>fp a 2
 |[]=>rfl
 |a::b=>by
  unfold jI;rw[o6,km];have c:fp a 2=[a/256^1%256,a/256^0%256]:=rfl;rw[c];show lj (_::_::jI b)=_
  rw[lj,Pl b]
def Nc:∀(b:List Int) (c:List Int),(∀a,a∈b->1<=a/\a<=65535)->c.length+b.length<=100->gW LC (b.map λa=>fp a 2) c=c7 (c++b)
 |[],c,_,_=>by simp[gW]
 |a::b,c,d,e=>by
  have h:=d a (by simp);rw[ez] at e;rw[km,gW,FY _ (AO a 2) (by rw[ly];decide),aa,IV (by omega) (by omega),aJ,dm (by decide) (by omega),aa,Nc b _ (λf g=>d f (by simp[g])) (by simp;omega),hB]
  rfl
def anb{r:aT}(a:kb r):zD LC ⟨r.agX,9,jr r⟩=c7 (r,0):=by
 have d:=a;obtain⟨b,e,c,s,i⟩:=a;have q:=WL r;unfold zD;dsimp only;rw[aG (λh=>h rfl),cF,aa,de,aC b];have j:aj (jr r) 8=c7 (r.aw.length:Int):=by
  rw[show(8:Int)=((8:Nat):Int) from rfl,bn];unfold jr;rw[hB,hB,eH (by rw[ly];decide),ly,eH (by rw[ly];decide),ly]
  rfl
 rw[j,aa];have l:(bif c5 (((jr r).length:Int)<9) then c7 true else c7 (c5 (((jr r).length:Int)≠c3 c4 (9+c3 c4 (2*c3 c4 (r.aw.length:Int))))))=c7 false:=by
  rw[aG,aJ (n:=(r.aw.length:Int)),aJ (n:=2*(r.aw.length:Int)),aJ,decide_eq_false (by omega)]
 rw[l,aa];simp only[cond_false];have o:eG (jr r) 0 2=c7 (fp r.aj6 2):=by
  rw[l8 (by omega) (by omega) (by omega)];unfold jr;simp[fp]
 have m:eG (jr r) 2 8=c7 (fp r.aa0 6):=by
  rw[l8 (by omega) (by omega) (by omega)];unfold jr;simp[fp]
 have p:eG (jr r) 9 ((jr r).length:Int)=c7 (jI r.aw):=by
  rw[l8 (by omega) (by omega) (by omega),dk,gy];unfold jr;simp[fp]
 rw[o,aa,FY _ (AO _ _) (by rw[ly];decide),aa,m,aa,FY _ (AO _ _) (by rw[ly];decide),aa,p,aa];have f:vE LC (jI r.aw) 2=c7 (jI r.aw,2):=by unfold vE;rw[aG (by decide)]
 rw[f,aa,IV (n:=r.aj6) (k:=2) e.1 (by omega),IV (n:=r.aa0) (k:=6) c.1 (by show r.aa0<281474976710656;omega),aJ (n:=r.aj6),aJ (n:=r.aa0)];unfold rA;dsimp only;rw[aC rfl,aC (by rw[Gp];omega),Pl,Nc _ _ (λt g=>i.mem g) (by simp;omega),aa,m6,xF (by show r.aw.length<=_;omega),aa,de];rw[aC (show kb ⟨r.agX,r.aj6,r.aa0,r.aw⟩ from d)]
def abN{x:cZ}{r:aT}(B:Sm x.dl)(z:Sm x.dr)(u:Fit r.aw):Ok (CT LC x r) λq=>q.1.dl.length=x.dl.length/\q.1.dr.length=x.dr.length/\(q.2≠0->q.1=x):=by
 unfold CT;have C:∃b,zY LC x=c7 b/\(b=true->x.dl.length=32/\x.dr.length=32/\(∀n,n∈x.dl->-1<=n/\n<=65535)/\∀n,n∈x.dr->0<=n/\n<=2147483648):=by
  unfold zY
  by_cases g:(x.dl.length:Int)=32
  rotate_left
  .rw[aG g];exact⟨false,rfl,λa=>by cases a⟩
  by_cases o:(x.dr.length:Int)=32
  rotate_left
  .rw[aC g,aG o];exact⟨false,rfl,λa=>by cases a⟩
  have k:Am LC x.dl=c7 (x.dl.any λn=>!c5 (-1<=n/\n<=65535)):=by
   unfold Am GR;have:=fF (l:=x.dl) (P:=λd=>Ap LC d) (p:=λn=>!c5 (-1<=n/\n<=65535)) (f:=λc=>I8 LC x.dl c) (by omega) (λd A=>by
    unfold Ap;rw[cF,aa]) (λc=>rfl)
   rw[show(LC.loop (λc=>I8 LC x.dl c) 0).bind _=_ from this,aa,gm]
  have i:CZ LC x.dr=c7 (x.dr.any λn=>!c5 (0<=n/\n<=2147483648)):=by
   unfold CZ JV;have:=fF (l:=x.dr) (P:=λd=>Dd LC d) (p:=λn=>!c5 (0<=n/\n<=2147483648)) (f:=λc=>FL LC x.dr c) (by omega) (λd A=>by
    unfold Dd;rw[cF,aa]) (λc=>rfl)
   rw[show(LC.loop (λc=>FL LC x.dr c) 0).bind _=_ from this,aa,gm]
  rw[aC g,aC o,k,aa,ot,i,aa,ot]
  by_cases m:∀n,n∈x.dl->-1<=n/\n<=65535
  .rw[aC m];exact⟨_,rfl,λa=>⟨by omega,by omega,m,of_decide_eq_true a⟩⟩
  .rw[aG m];exact⟨false,rfl,λa=>by cases a⟩
 obtain⟨b,k,i⟩:=C;rw[k,aa,de];refine dy (λw=>?_) (λ_=>ae ⟨rfl,rfl,λ_=>rfl⟩)
 obtain⟨M,K,E,y⟩:=i w;rw[xF u,aa,de];refine aV (λG=>?_) (λ_=>ae ⟨rfl,rfl,λ_=>rfl⟩)
 obtain⟨s,O,J,R,L⟩:=G;have j:x.dl[r.agX.toNat]?=c7 (x.dl[r.agX.toNat]'(by omega)):=c6 (by omega);have H:=E _ (dd (show r.agX.toNat<x.dl.length by omega));generalize x.dl[r.agX.toNat]'(by omega)=e at j H;have h:x.dr[r.agX.toNat]?=c7 (x.dr[r.agX.toNat]'(by omega)):=c6 (by omega);have I:=y _ (dd (show r.agX.toNat<x.dr.length by omega));generalize x.dr[r.agX.toNat]'(by omega)=d at h I;have t:aj x.dl r.agX=c7 e:=by unfold aj;rw[if_pos s.1];exact j
 have D:aj x.dr r.agX=c7 d:=by unfold aj;rw[if_pos s.1];exact h
 have F:=abO (v:=r.aj6 -e+65536) (n:=65536) (by omega) (by decide);rw[t,aa,aJ (n:=r.aj6 -e),aJ (n:=r.aj6 -e+65536),D7 (by omega),aa];generalize (r.aj6 -e+65536).tmod 65536=N at F;refine aD (Q:=λ_=>True) (aV (λ_=>aV (λ_=>ae trivial) (λ_=>ae trivial)) (λ_=>ae trivial)) λS _=>?_
 refine dy (λ_=>ae ⟨rfl,rfl,λ_=>rfl⟩) (λ_=>?_)
 rw[bV B,aa,bV z,aa,t,aa,j,aa];refine aV (λ_=>?_) (λ_=>ae ⟨by dsimp only;rw[dT],rfl,λa=>absurd rfl a⟩)
 rw[D,aa,h,aa,aa,aa];exact ae ⟨by dsimp only;rw[dT],by dsimp only;rw[dT],λa=>absurd rfl a⟩
where abO {v n:Int} (h0:0<=v) (hn:1<=n):0<=v.tmod n/\v.tmod n<n:=⟨Int.tmod_nonneg n h0,Int.tmod_lt_of_pos v (by omega)⟩
def Xo{l:List aS}{r:aT}(o:Fit r.aw)(v:∀a,a∈l->0<=a.cR/\a.cR<=60):Ok (Bl LC l r) λq=>q.1.length<=20/\(q.2=0->kb r/\∃a,l[r.agX.toNat]?=c7 a/\∀b,b∈q.1->b.Tag∈r.aw/\b.an=max 0 (r.aa0 -a.cR)/\b.To=r.aa0+a.cR):=by
 unfold Bl;rw[xF o,aa,de];refine aV (λz=>?_) (λ_=>ae ⟨by simp,λg=>by cases g⟩)
 refine aV (λ_=>ae ⟨by simp,λg=>by cases g⟩) (λA=>?_)
 obtain⟨j,x,s,k,t⟩:=z;have e:l[r.agX.toNat]?=c7 (l[r.agX.toNat]'(by omega)):=c6 (by omega);have y:=v _ (dd (show r.agX.toNat<l.length by omega));generalize l[r.agX.toNat]'(by omega)=a at e y;have m:aj l r.agX=c7 a:=by unfold aj;rw[if_pos j.1];exact e
 rw[m,aa];have u:=jm (f:=λb:List dS×Int=>Dq LC r a b.1 b.2) r.aw (λc i=>(c.map λd=>dS.mk r.agX d (max 0 (r.aa0 -a.cR)) (r.aa0+a.cR),i)) (λc=>c.map λd=>dS.mk r.agX d (max 0 (r.aa0 -a.cR)) (r.aa0+a.cR)) (λc B C h=>by
  dsimp only;unfold Dq;have:=iy h;rw[aC (iy h),jg h,aa,aJ (n:=r.aa0 -a.cR),aJ (n:=r.aa0+a.cR),dm (by decide) (by rw[eE];omega),aa,aJ,hK]
  rfl) (by
  dsimp only;unfold Dq;rw[aG])
 refine c8 u ?_
 refine ae ⟨by rw[eE];exact k,λ_=>⟨⟨j,x,s,k,t⟩,a,e,λb w=>?_⟩⟩
 obtain⟨d,p,rfl⟩:=j8.1 w;exact⟨p,rfl,rfl⟩
def jX(f:List aT)(e d:Int)(run:List aT):Prop:=(∀r,r∈run->r∈f/\r.agX=e/\d∉r.aw)/\∀(a:Nat) b c,run[a]?=c7 b->run[a+1]?=c7 c->c.aj6=(b.aj6+1).tmod 65536
def nc(g:List aT)(f e:Int)(b:aS)(a:dC):Prop:=∃run c d,jX g f e run/\run[0]?=c7 c/\run[run.length -1]?=c7 d/\a.an=c.aa0+b.cR/\a.To=d.aa0 -b.cR
def anm{rd:aS}{a b:aT}(d:0<=a.aj6/\a.aj6<=65535):Ok (xH LC rd a b) λv=>v=true->b.aj6=(a.aj6+1).tmod 65536:=by
 unfold xH;rw[aJ,D7 (by omega),aa];refine aV (λc=>?_) (λ_=>ae λc=>by cases c)
 exact aV (λ_=>ae λ_=>c) (λ_=>ae λc=>by cases c)
def GX{f run:List aT}{a:aS}{b d:Int}{out:List dC}(s:∀r,r∈f->kb r)(w:0<=a.cR/\a.cR<=60)(o:jX f b d run)(A:run.length<=400)(y:out.length<=1000)(l:∀c,c∈out->nc f b d a c):
 ∃g,yG LC run a b d out=c7 (pC run a b d [] g)/\xD LC run a b d out=c7 (u32 [] a g b d)/\g.length<=out.length+1/\∀c,c∈g->nc f b d a c:=by
 unfold yG xD
 by_cases k:1<(run.length:Int)
 rotate_left
 .rw[aG k,aG k];exact⟨out,rfl,rfl,by omega,l⟩
 rw[aC k,aC k];have j:run[0]?=c7 (run[0]'(by omega)):=c6 (by omega);have q:=s _ (o.1 _ (dd (show 0<run.length by omega))).1;have p:run[run.length -1]?=c7 (run[run.length -1]'(by omega)):=c6 (by omega);have t:=s _ (o.1 _ (dd (show run.length -1<run.length by omega))).1;generalize run[0]'(by omega)=i at j q;generalize run[run.length -1]'(by omega)=m at p t;have u:aj run 0=c7 i:=by rw[show(0:Int)=((0:Nat):Int) from rfl,bn];exact j
 have v:c3 c4 ((run.length:Int) -1)=((run.length -1:Nat):Int):=by rw[aJ];omega
 have x:=q.2.2.1;have z:=t.2.2.1;rw[v,bn,dk,show(0:Int).toNat=0 from rfl,u,j,p];simp only[aa];rw[aJ (n:=i.aa0+a.cR),aJ (n:=m.aa0 -a.cR)]
 by_cases h:i.aa0+a.cR<m.aa0 -a.cR
 .rw[aC h,aC h,dm (by decide) (by omega),aa,aa];refine⟨_,rfl,rfl,by simp,λc e=>?_⟩
  rcases e4.1 e with e |e
  .exact l c e
  .rw[e0] at e;subst e;exact⟨run,i,m,o,j,p,rfl,rfl⟩
 .rw[aG h,aG h];exact⟨out,rfl,rfl,by omega,l⟩
def jX.nil{a:List aT}{k tag:Int}:jX a k tag []:=⟨λr h=>(by cases h),λc x d h=>by simp at h⟩
def jX.snoc{j run:List aT}{k tag:Int}{r:aT}(h:jX j k tag run)(n:r∈j)(s:r.agX=k)(o:tag∉r.aw)(t:∀x,run[run.length -1]?=c7 x->0<run.length->r.aj6=(x.aj6+1).tmod 65536):jX j k tag (run++[r]):=by
 refine⟨λx a=>?_,λd x m a c=>?_⟩
 .rcases e4.1 a with a |a
  .exact h.1 x a
  .rw[e0] at a;subst a;exact⟨n,s,o⟩
 .by_cases e:d+1<run.length
  .rw[h6 (by omega)] at a c;exact h.2 d x m a c
  .have l:d+1=run.length:=by
    have:=(dt.1 c).1;simp at this;omega
   rw[h6 (by omega)] at a;rw[eH (by omega),l,j7] at c;have c:r=m:=by simpa using c
   subst c;exact t x (by rw[<-l,n2];exact a) (by omega)
def ag3{rs:List aS}(c d:Int)(l:List aT)(am:∀rd,rd∈rs->0<=rd.cR/\rd.cR<=60)(J:∀r,r∈l->Fit r.aw):Ok (xp LC rs c d l) λq=>q.1.length<=1000/\(q.2=0->0<=c/\∃rd,rs[c.toNat]?=c7 rd/\∀a,a∈q.1->nc l c d rd a):=by
 unfold xp;refine aV (λ_=>ae ⟨by simp,λn=>by cases n⟩) (λao=>?_)
 have ah:Ad LC l=c7 (l.any λr=>!c5 (kb r)):=by
  unfold Ad GJ;have:=fF (l:=l) (P:=λs=>Ai LC s) (p:=λr=>!c5 (kb r)) (f:=λm=>I4 LC l m) (by omega) (λs F=>by
   unfold Ai;rw[xF (J s F),aa]) (λm=>rfl)
  rw[show(LC.loop (λm=>I4 LC l m) 0).bind _=_ from this,aa,gm]
 rw[ah,aa,HA];refine aV (λ_=>ae ⟨by simp,λn=>by cases n⟩) (λt=>?_)
 have t:∀r,r∈l->kb r:=Classical.byContradiction t;rw[ew rfl,aa];refine aV (λ_=>ae ⟨by simp,λn=>by cases n⟩) (λau=>?_)
 rw[cF,aa,de];refine aV (λaq=>?_) (λ_=>ae ⟨by simp,λn=>by cases n⟩)
 have E:rs[c.toNat]?=c7 (rs[c.toNat]'(by omega)):=c6 (by omega);have A:=am _ (dd (show c.toNat<rs.length by omega));generalize rs[c.toNat]'(by omega)=rd at E A;have T:aj rs c=c7 rd:=by unfold aj;rw[if_pos (by omega)];exact E
 rw[T,aa];refine aD (Q:=λe=>∃run out,e=qA c d rd run out/\jX l c d run/\run.length<=l.length/\out.length<=l.length/\∀a,a∈out->nc l c d rd a) ?_ λe j=>?_
 .refine di l.length (λi m=>∃out run,m=vI c d rd out run (i:Int)/\jX l c d run/\run.length<=i/\out.length<=i/\∀a,a∈out->nc l c d rd a) _ (λi m O H=>?_) (λm H=>?_) _ ⟨[],[],rfl,jX.nil,h8 _,h8 _,λa ad=>by cases ad⟩
  .obtain⟨out,run,rfl,k,I,B,o⟩:=H;have L:l[i]?=c7 l[i]:=c6 O;have y:=dd O;generalize l[i]=h at L y;have ap:=t h y;show Ok (vj LC l c d rd out run (i:Int)) _
   unfold vj;rw[aC,bn,L,aa];have fin:∀(e:pg) g x,e=ql c d rd g x->jX l c d x->x.length<=i+1->g.length<=i+1->(∀a,a∈g->nc l c d rd a)->Ok (c7 (m0 (vI (Jw e) (KY e) (Kd e) (FE e) (vh e) (c3 c4 ((i:Int)+1))))) λe:oI⊕qt=>match e with
    | .inl S=>∃out run,S=vI c d rd out run ((i+1:Nat):Int)/\jX l c d run/\run.length<=i+1/\out.length<=i+1/\∀a,a∈out->nc l c d rd a
    | .inr e=>∃run out,e=qA c d rd run out/\jX l c d run/\run.length<=l.length/\out.length<=l.length/\∀a,a∈out->nc l c d rd a:=λe g x j ag Y V U=>by
    subst j;rw[aJ];exact ae ⟨g,x,rfl,ag,Y,V,U⟩
   by_cases C:h.agX≠c
   .rw[aC C,aa];exact WI (fin _ out run rfl k (by omega) (by omega) o) λe j=>by cases e <;> exact j
   .rw[aG C];have R:h.agX=c:=ej.1 C;rw[contains_eq (J h y),aa]
    by_cases z:d∈h.aw
    .rw[aC z];obtain⟨g,w,_,K,v⟩:=GX t A k (by omega) (by omega) o;rw[w,aa];dsimp only;rw[aa];exact WI (fin _ g [] rfl jX.nil (by simp) (by omega) v) λe j=>by cases e <;> exact j
    .rw[aG z];have ai:∃s,(bif c5 (0<(run.length:Int)) then(aj run (c3 c4 ((run.length:Int) -1))).bind λ_=>(run[(c3 c4 ((run.length:Int) -1)).toNat]?).bind λab=>(xH LC rd ab h).bind λan=>c7 (!an) else c7 false)=c7 s/\(s=false->∀u,run[run.length -1]?=c7 u->0<run.length->h.aj6=(u.aj6+1).tmod 65536):=by
      by_cases h0:0<(run.length:Int)
      .have Z:c3 c4 ((run.length:Int) -1)=((run.length -1:Nat):Int):=by rw[aJ];omega
       have N:run[run.length -1]?=c7 (run[run.length -1]'(by omega)):=c6 (by omega);have M:=t _ (k.1 _ (dd (show run.length -1<run.length by omega))).1;generalize run[run.length -1]'(by omega)=u at N M;obtain⟨b,al,ac⟩:=anm (rd:=rd) (a:=u) (b:=h) M.2.1;rw[aC h0,Z,bn,dk,N,aa,aa,al,aa];refine⟨!b,rfl,λF ar D _=>?_⟩
       injection D with D
       subst D;exact ac (by simpa using F)
      .rw[aG h0];exact⟨false,rfl,λ_ u _ n=>absurd (by omega) h0⟩
     obtain⟨s,W,af⟩:=ai;rw[W,aa];cases s with
     |true=>
      obtain⟨g,w,_,K,v⟩:=GX t A k (by omega) (by omega) o;simp only[cond_true];rw[w,aa];rw[aa];have G:bj 48 (vh (ql (KG (pC run rd c d [] g)) (FU (pC run rd c d [] g)) (Fp (pC run rd c d [] g)) (GM (pC run rd c d [] g)) (Hz (pC run rd c d [] g)))) [h]=c7 ([]++[h]):=dm (by decide) (by show([]:List aT).length<=_;simp);rw[G,aa,aa];exact WI (fin _ g ([]++[h]) rfl (jX.nil.snoc y R z λu X=>by simp at X) (by simp) (by omega) v) λe j=>by cases e <;> exact j
     |false=>
      simp only[cond_false];rw[aa];have G:bj 48 (vh (ql c d rd out run)) [h]=c7 (run++[h]):=dm (by decide) (by show run.length<=_;omega);rw[G,aa,aa];exact WI (fin _ out (run++[h]) rfl (k.snoc y R z (af rfl)) (by simp;omega) (by omega) o) λe j=>by cases e <;> exact j
  .obtain⟨out,run,rfl,k,I,B,o⟩:=H;show Ok (vj LC l c d rd out run (l.length:Int)) _
   unfold vj;rw[aG];exact ae ⟨run,out,rfl,k,I,B,o⟩
 .obtain⟨run,out,rfl,k,I,B,o⟩:=j;obtain⟨g,_,w,K,v⟩:=GX t A k (by omega) (by omega) o;have ak:xD LC (Mb (qA c d rd run out)) (MT (qA c d rd run out)) (LJ (qA c d rd run out)) (Tn (qA c d rd run out)) (N2 (qA c d rd run out))=c7 (u32 [] rd g c d):=w;dsimp only;rw[ak,aa];exact ae ⟨by show g.length<=1000;omega,λ_=>⟨by omega,rd,E,v⟩⟩
def LV{a:aS}(d:0<=a.dY/\a.dY<=10)(c:1<=a.dX/\a.dX<=600):Dh LC a=c7 ((a.dY+1)*a.dX):=by
 unfold Dh;have e:0<=(a.dY+1)*a.dX:=Int.mul_nonneg (by omega) (by omega);have b:(a.dY+1)*a.dX<=11*600:=mb (by omega) c.2 (by omega) (by decide);rw[aJ (n:=a.dY+1),aJ]
def Hs{o:Type}{z:o}{c:List o}(P:c.length<=1000000){B:o->Option Bool}{p:o->Bool}(G:∀a,a∈c->B a=c7 (p a)){f:List o×Int×Int->Option ((List o×Int×Int)⊕(List o×Int))}
 (x:∀e i g,f (e,i,g)=bif c5 (g<(e.length:Int)) then(aj e g).bind λ_=>(e[g.toNat]?).bind λa=>(B a).bind λN=>(bif (!N) then(aj e i).bind λ_=>(e[i.toNat]?).bind λ_=>c7 (e.set i.toNat a,c3 c4 (i+1)) else c7 (e,i)).bind λd=>c7 (.inl (d.1,d.2,c3 c4 (g+1))) else c7 (.inr (e,i))):
 (bif c5 (gg p c= -1) then c7 c else(bO f (c,gg p c,c3 c4 (gg p c+1))).bind λd=>(eG d.1 d.2 (d.1.length:Int)).bind λ_=>(eG (X.iG z d.2.toNat ((d.1.length:Int).toNat -d.2.toNat) d.1) 0 d.2).bind λa=>c7 a)=c7 (c.filter λa=>!p a):=by
 by_cases h0:gg p c= -1
 .rw[aC h0]
  congr 1
  symm
  refine mx.2 λa l=>?_
  cases m:p a with
  |false=>rfl
  |true=>exact absurd (Aw.2 ⟨a,l,m⟩) (by omega)
 rw[aG h0];have O:0<=gg p c:=by
  unfold gg at h0⊢;cases C:jv (mj p c) 0 c.length with
  |none=>rw[C] at h0;exact absurd rfl h0
  |some b=>
   obtain⟨g,_,_,k,_⟩:=yO C;unfold mj at k;cases l:c[g]? with
   |none=>rw[l] at k;cases k
   |some a=>
    rw[l] at k;cases m:p a with
    |false=>simp only[m,cond_false] at k;cases k
    |true=>simp only[m,cond_true] at k;injection k with k;show 0<=b;omega
 obtain⟨h,T,I,y,F,H⟩:=HN O;have Q:=(dt.1 y).1;rw[I,aJ];have M:Ok (bO f (c,(h:Int),(h:Int)+1)) λd=>∃i:Nat,d.2=(i:Int)/\i<=d.1.length/\d.1.take i=c.filter λa=>!p a:=by
  refine di (c.length - (h+1)) (λj e=>∃i:Nat,e.2.1=(i:Int)/\e.2.2=((h+1+j:Nat):Int)/\i<h+1+j/\e.1.length=c.length/\e.1.take i=(c.take (h+1+j)).filter (λa=>!p a)/\∀g,h+1+j<=g->e.1[g]?=c[g]?) _ (λj e U v=>?_) (λe v=>?_) _ ⟨h,rfl,by show(h:Int)+1=_;omega,by omega,rfl,?_,λg _=>rfl⟩
  .obtain⟨aK,L,b⟩:=e;obtain⟨i,rfl,rfl,u,t,r,q⟩:=v;dsimp only at u t r q;have s:h+1+j<c.length:=by omega
   have l:=c6 s;have D:=dd s;generalize c[h+1+j]=a at l D;have A:aK[h+1+j]?=c7 a:=(q _ (h8 _)).trans l;rw[x,aC,bn,A,aa,dk,A,aa,G a D,aa,de];have E:(c.take (h+1+(j+1))).filter (λa=>!p a)=(c.take (h+1+j)).filter (λa=>!p a)++(if p a=true then[] else[a]):=by
    rw[show h+1+(j+1)=(h+1+j)+1 by omega,iE l,ng];cases m:p a <;> simp[m]
   cases m:p a with
   |true=>
    simp only[cond_true,aa];rw[aJ];refine ae ⟨i,rfl,by dsimp only;omega,by omega,t,?_,λg s=>q g (by omega)⟩
    rw[E,m];simpa using r
   |false=>
    have w:i<aK.length:=by omega
    simp only[cond_false];rw[bn,c6 w,aa,dk,c6 w,aa,aa,aJ (n:=(i:Int)+1),aJ];refine ae ⟨i+1,rfl,by dsimp only;omega,by omega,by dsimp only;rw[dT];exact t,?_,λg s=>?_⟩
    .dsimp only;rw[E,m,iE (gv w),my (h8 _),r];simp
    .dsimp only;rw[hq (by omega)];exact q g (by omega)
  .obtain⟨aK,L,b⟩:=e;obtain⟨i,rfl,rfl,u,t,r,q⟩:=v;dsimp only at u t r q;rw[x,aG];refine ae ⟨i,rfl,by dsimp only;omega,?_⟩
   dsimp only;rw[r,hM (by omega)]
  .rw[q7,iE y,ng];simp only[F,fe,hY,not_false_eq_true,List.filter_cons_of_neg,List.filter_nil,p0]
   symm
   refine mx.2 λa l=>?_
   obtain⟨g,s,rfl⟩:=e5.1 l;rw[ea] at s;rw[o2];rw[H g _ (by omega) (c6 (by omega))]
   rfl
 obtain⟨d,J,i,K,R,k⟩:=M;rw[J,aa,K,l8 (by omega) (by omega) (by omega),aa,dk,dk];have S:(X.iG z i (d.1.length -i) d.1).length=d.1.length:=by
  unfold X.iG;simp only[eo,ea,e6,h5];omega
 rw[l8 (by omega) (by omega) (by omega),aa,dk]
 congr 1
 show((X.iG z i (d.1.length -i) d.1).take i).drop 0=_
 rw[j9, <-k];unfold X.iG;rw[l0 (by rw[ea];omega),q2,qa]
def al9{c:List Int}(U:c.length<=1000000):Ok (ED LC c) λr=>r.length<=c.length/\∀d,d∈r↔d∈c:=by
 unfold ED;refine aV (λ_=>ae ⟨h8 _,λd=>Iff.rfl⟩) (λW=>?_)
 refine aD (Q:=λf=>match f with | .inl r=>r.length<=c.length/\∀d,d∈r↔d∈c | .inr _=>True) ?_ λf t=>?_
 .refine di (c.length -1) (λa g=>g=((1+a:Nat):Int)) _ (λa g ac k=>?_) (λg k=>?_) _ rfl
  .subst k;have w:1+a<c.length:=by omega
   have J:c3 c4 (((1+a:Nat):Int) -1)=(a:Int):=by rw[aJ];omega
   unfold If;rw[aC,bn,c6 w,aa,dk,c6 w,aa,J,bn,c6 (show a<c.length by omega),aa,dk,c6 (show a<c.length by omega),aa];refine aV (λI=>?_) (λ_=>by rw[aJ];exact ae (by dsimp only;omega))
   rw[l8 (by omega) (by omega) (by omega),aa];refine aD (Q:=λf=>∃i:Nat,f.2=(i:Int)/\f.1.length=c.length/\i<=c.length/\∀d,d∈f.1.take i↔d∈c) ?_ λf t=>?_
   .refine di (c.length - (1+a) -1) (λe g=>∃i:Nat,g.2.1=(i:Int)/\g.2.2=((e+1:Nat):Int)/\i<=1+a+e/\g.1.length=c.length/\(∀h,1+a+e<=h->g.1[h]?=c[h]?)/\∀d,d∈g.1.take i↔d∈c.take (1+a+e+1)) _ (λe g y k=>?_) (λg k=>?_) _ ⟨1+a,rfl,rfl,by omega,rfl,λh _=>rfl,λd=>?_⟩
    .obtain⟨aK,P,b⟩:=g;obtain⟨i,rfl,rfl,v,o,l,m⟩:=k;dsimp only at v o l m;have N:1+a+(e+1)<c.length:=by omega
     have q:=c6 N;have p:=c6 (show 1+a+e<c.length by omega);generalize Z:c[1+a+(e+1)]=X at q;generalize ab:c[1+a+e]'(by omega)=x at p;have F:aK[1+a+(e+1)]?=c7 X:=(l _ (by omega)).trans q;have S:aK[1+a+e]?=c7 x:=(l _ (by omega)).trans p;have D:(((aK).drop ((1+a:Nat):Int).toNat).take ((c.length:Int).toNat - ((1+a:Nat):Int).toNat)).length=c.length - (1+a):=by
      rw[ea,h5,dk,dk];omega
     have A:∀h:Nat,h<c.length - (1+a)->∃R,aj (((aK).drop ((1+a:Nat):Int).toNat).take ((c.length:Int).toNat - ((1+a:Nat):Int).toNat)) (h:Int)=c7 R:=λh B=>⟨_,by rw[bn];exact c6 (by omega)⟩
     obtain⟨ad,G⟩:=A (e+1) (by omega);obtain⟨af,H⟩:=A e (by omega);have C:c3 c4 (((e+1:Nat):Int) -1)=(e:Int):=by rw[aJ];omega
     dsimp only;unfold Kw;rw[aC (by rw[D];omega),G,aa,C,H,aa,dk,dk,F,aa,dk,S,aa,aa,aa];have z:∀d,d∈c.take (1+a+(e+1)+1)↔d∈c.take (1+a+e+1)\/d=X:=λd=>by
      rw[show 1+a+(e+1)+1=(1+a+(e+1))+1 by omega,iE q,e4,e0,show 1+a+(e+1)=1+a+e+1 by omega]
     have E:x∈c.take (1+a+e+1):=by rw[iE p];simp
     by_cases s:X≠x
     .have u:i<aK.length:=by omega
      rw[aC s,bn,c6 u,aa,dk,c6 u,aa,aa,aJ (n:=(i:Int)+1),aJ];refine ae ⟨i+1,rfl,by dsimp only;omega,by omega,by dsimp only;rw[dT];exact o,λh B=>?_,λd=>?_⟩
      .dsimp only;rw[hq (by omega)];exact l h (by omega)
      .dsimp only;rw[z,iE (gv u),my (h8 _),e4,e0,m]
     .have K:=ej.1 s;rw[aG s,aa,aJ];refine ae ⟨i,rfl,by dsimp only;omega,by omega,o,λh B=>l h (by omega),λd=>?_⟩
      dsimp only;rw[z,m];exact⟨.inl,λj=>j.elim id λj=>by rw[j,K];exact E⟩
    .obtain⟨aK,P,b⟩:=g;obtain⟨i,rfl,rfl,v,o,l,m⟩:=k;dsimp only at v o l m;dsimp only;unfold Kw;rw[aG (by rw[ea,h5,dk,dk];omega)];refine ae ⟨i,rfl,o,by omega,λd=>?_⟩
     dsimp only;rw[m,hM (by omega)]
    .dsimp only;have p:=c6 w;have q:=c6 (show a<c.length by omega);rw[show 1+a+0+1=(1+a)+1 by omega,iE p,e4,e0,I];refine⟨.inl,λj=>j.elim id λj=>?_⟩
     have O:c[a]∈c.take (a+1):=by rw[iE q];exact e4.2 (.inr (e0.2 rfl))
     rw[j,show 1+a=a+1 by omega];exact O
   .obtain⟨i,M,V,T,L⟩:=t;rw[M,l8 (by omega) (by omega) (by omega),aa,dk,dk];have Y:(X.iG (0:Int) i (f.1.length -i) f.1).length=f.1.length:=by
     unfold X.iG;simp only[eo,ea,e6,h5];omega
    rw[l8 (by omega) (by omega) (by omega),aa,dk];have y:((X.iG (0:Int) i (f.1.length -i) f.1).take i).drop (0:Int).toNat=f.1.take i:=by
     show((X.iG (0:Int) i (f.1.length -i) f.1).take i).drop 0=_
     rw[j9];unfold X.iG;rw[l0 (by rw[ea];omega),q2,qa]
    rw[y];exact ae ⟨by rw[ea];omega,L⟩
  .subst k;unfold If;rw[aG];exact ae trivial
 .cases f with
  |inl r=>exact ae t
  |inr _=>exact ae ⟨h8 _,λd=>Iff.rfl⟩
def akS{a b:List Int}(f:a.length+b.length<=100000):Ok (zT LC a b) λr=>r.length<=a.length+b.length/\∀d,d∈r↔d∈a\/d∈b:=by
 unfold zT He;have k:bO (λc:Int×Int=>ve LC [a,b] c.1 c.2) (0,0)=c7 ((a.length+b.length:Nat):Int):=by
  rw[iO (a':=((a.length:Int),1)),iO (a':=(((a.length+b.length:Nat):Int),2)),fZ (b:=((a.length+b.length:Nat):Int))]
  .rfl
  .dsimp only;unfold ve;rw[aC (by simp),show aj [a,b] 1=c7 b from rfl,aa,aJ (n:=(a.length:Int)+b.length),aG,aJ]
   congr 2
  .dsimp only;unfold ve;rw[aC (by simp),show aj [a,b] 0=c7 a from rfl,aa,aJ (n:=0+(a.length:Int)),aG,aJ,m4]
   rfl
 rw[show LC.loop (λc:Int×Int=>ve LC [a,b] c.1 c.2) (0,0)=_ from k,aa];have i:CW LC ((a.length+b.length:Nat):Int)=c7 []:=by
  unfold CW Ct;rw[aC,nS (by omega) (by omega),aa]
 rw[i,aa];have g:∀d e:List Int,d.length+e.length<=100000->bj 8 d e=c7 (d++e):=λd e f=>pN (by omega)
 have j:bO (λc:List Int×Int=>xV LC [a,b] c.1 c.2) ([],0)=c7 (a++b):=by
  rw[iO (a':=(a,1)),iO (a':=(a++b,2)),fZ (b:=a++b)]
  .rfl
  .dsimp only;unfold xV;rw[aC (by simp),show aj [a,b] 1=c7 b from rfl,aa,g a b f,aa]
   rfl
  .dsimp only;unfold xV;rw[aC (by simp),show aj [a,b] 0=c7 a from rfl,aa,g [] a (by simp;omega),aa,m6]
   rfl
 rw[show LC.loop (λc:List Int×Int=>xV LC [a,b] c.1 c.2) ([],0)=_ from j];simp only[aa];rw[zF (cX (n:=100000) (by rw[eo];exact f) (by decide)),aa];refine aD (al9 (by rw[uP,eo];omega)) λr h=>ae ⟨by have:=h.1;rw[uP,eo] at this;exact this,λd=>?_⟩
 rw[h.2,(uK _).mem_iff,e4]
def lH(b:ak)(a:bE):Prop:=cP b/\cj 0 ((b.ai.length:Int) -1) a.akL/\cj 0 ((b.ai.length:Int) -1) a.dg/\cj 0 ((b.af.length:Int) -1) a.dG/\0<=a.er/\a.er<=2147483648
instance (a:ak) (b:bE):Decidable (lH a b):=by unfold lH;infer_instance
structure lO (e:bE):Prop where
 s:Fit e.akL
 b:Fit e.dg
 h:Fit e.dG
def Jc{c:ak}{e:bE}(d:lO e):rP LC c e=c7 (c5 (lH c e)):=by
 unfold rP;rw[ko,aa]
 by_cases a:cP c
 rotate_left
 .rw[aG a,decide_eq_false (λb=>a b.1)]
 have f:=a.1;have g:=a.2.1;rw[aC a,aJ (n:=(c.ai.length:Int) -1),aJ (n:=(c.af.length:Int) -1),kw _ _ _ d.s,aa,kw _ _ _ d.b,aa,kw _ _ _ d.h,aa,cF,aa,fm (fm (fm rfl))]
 congr 1
 exact decide_eq_decide.2 ⟨λb=>⟨a,b⟩,λb=>b.2⟩
def ahk{a:ak}{b:bE}{p:Int}(c:lO b)(d:Fit a.ai):Bc LC a b p=c7 (c5 (lH a b/\0<=p/\p<=(a.ai.length:Int) -1)):=by
 have e:a.ai.length<=4611686018427387904:=d;unfold Bc;rw[Jc c,aa,aJ,cF,aa];exact fm rfl
def mn(c:ak)(a:cS):Prop:=∃(i:Nat) (r:aZ) (b:Bool),c.af[i]?=c7 r/\a.gX=(i:Int)/\a.from_=(if b then r.To else r.an)/\a.b9=(if b then r.an else r.To)/\a.time=wT c (i:Int) b 2 3 4/\0<=a.time
structure mA (f:cm) (n:Nat):Prop where
 MP:f.n=(n:Int)
 sM:n<=64
 safe:f.safe.length=n
 bad:f.bad.length=n
 num:f.steps.length<=300
 st:∀s,s∈f.steps->(0<=s.from_/\s.from_<(n:Int))/\(0<=s.b9/\s.b9<(n:Int))/\1<=s.time/\s.time<=1000099
def mn.ok{m:ak}(c:cP m){s:cS}(h:mn m s):(0<=s.from_/\s.from_<(m.ai.length:Int))/\(0<=s.b9/\s.b9<(m.ai.length:Int))/\1<=s.time/\s.time<=1000099:=by
 obtain⟨i,r,b,k,_,j,a,o,t⟩:=h;obtain⟨e,n⟩:=Cn c k b;have:=rF m (i:Int) b (u:=2) (d:=3) (l:=4) (by decide);rw[j,a];exact⟨e,n,by omega,by omega⟩
def aol{m:ak}{o:bE}(ac:lH m o):Ok (w9 LC m o) λf=>mA f m.ai.length/\∀a,a∈f.steps->mn m a:=by
 obtain⟨F,C,B,R,_⟩:=ac;have O:=F.1;have al:=F.2.1;unfold w9;rw[nS (by omega) (by omega),aa,aa,dk];refine aD (Q:=λe:List Bool=>e.length=m.ai.length) ?_ λP U=>?_
 .refine di m.ai.length (λi a=>a.2=(i:Int)/\a.1.length=m.ai.length) _ (λi a y n=>?_) (λa n=>?_) _ ⟨rfl,e6⟩
  .obtain⟨d,h⟩:=a;obtain⟨rfl,l⟩:=n;dsimp only at l⊢;unfold u5;rw[aC,bn,c6 y,aa,bn,c6 (show i<d.length by omega),aa,dk,c6 (show i<d.length by omega),aa,aJ];exact ae ⟨rfl,by rw[dT];exact l⟩
  .obtain⟨d,h⟩:=a;obtain⟨rfl,l⟩:=n;dsimp only at l⊢;unfold u5;rw[aG];exact ae l
 have L:∀(u:List Int) (g:List Bool->Int->Option ((List Bool×Int)⊕List Bool)) (E:List Bool),cj 0 ((m.ai.length:Int) -1) u->(∀d h,g d h=bif c5 (h<(u.length:Int)) then(aj u h).bind λq=>(aj d q).bind λ_=>(d[q.toNat]?).bind λ_=>c7 (.inl (d.set q.toNat true,c3 c4 (h+1))) else c7 (.inr d))->E.length=m.ai.length->Ok (bO (λa:List Bool×Int=>g a.1 a.2) (E,0)) λe=>e.length=m.ai.length:=by
  intro u g E A G V;have ai:=A.len (by omega);refine di u.length (λi a=>a.2=(i:Int)/\a.1.length=m.ai.length) _ (λi a y n=>?_) (λa n=>?_) _ ⟨rfl,V⟩
  .obtain⟨d,h⟩:=a;obtain⟨rfl,l⟩:=n;dsimp only at l⊢;have v:=c6 y;have K:=A.mem (dd y);generalize u[i]=q at v K;have J:d[q.toNat]?=c7 (d[q.toNat]'(by omega)):=c6 (by omega);have W:aj d q=c7 (d[q.toNat]'(by omega)):=by unfold aj;rw[if_pos K.1];exact J
   rw[G,aC,bn,v,aa,W,aa,J,aa,aJ];exact ae ⟨rfl,by rw[dT];exact l⟩
  .obtain⟨d,h⟩:=a;obtain⟨rfl,l⟩:=n;dsimp only at l⊢;rw[G,aG];exact ae l
 refine aD (L o.akL (λd h=>wU LC o d h) P C (λd h=>rfl) U) λk T=>?_
 refine aD (L o.dg (λd h=>wu LC o d h) (ec m.ai.length false) B (λd h=>rfl) e6) λj X=>?_
 have ag:=R.len (by omega);refine aD (Q:=λe=>∃c,e=iC (cm.mk (m.ai.length:Int) c k j)/\c.length<=2*m.af.length/\∀a,a∈c->mn m a) ?_ λe s=>?_
 .refine di m.af.length (λi a=>∃c,a=nC (cm.mk (m.ai.length:Int) c k j) (i:Int)/\c.length<=2*i/\∀a,a∈c->mn m a) _ (λi a y n=>?_) (λa n=>?_) _ ⟨[],rfl,h8 _,λa w=>by cases w⟩
  .obtain⟨c,rfl,z,t⟩:=n;have v:=c6 y;generalize m.af[i]=r at v;show Ok (pS LC m o k j (cm.mk (m.ai.length:Int) c k j) (i:Int)) _
   unfold pS;rw[aC,bn,v,aa,contains_eq (by show o.dG.length<=_;omega),aa];have fin:∀(e:lU) p,e=iC (cm.mk (m.ai.length:Int) p k j)->p.length<=2*(i+1)->(∀a,a∈p->mn m a)->Ok (c7 (m0 (nC (ox k j e) (c3 c4 ((i:Int)+1))))) λe:pE⊕lU=>match e with
    | .inl M=>∃c,M=nC (cm.mk (m.ai.length:Int) c k j) ((i+1:Nat):Int)/\c.length<=2*(i+1)/\∀a,a∈c->mn m a
    | .inr e=>∃c,e=iC (cm.mk (m.ai.length:Int) c k j)/\c.length<=2*m.af.length/\∀a,a∈c->mn m a:=λe p s C B=>by
    subst s;rw[aJ];exact ae ⟨p,rfl,C,B⟩
   by_cases H:(i:Int)∈o.dG
   .rw[aC H,aa];exact WI (fin _ c rfl (by omega) t) λe s=>by cases e <;> exact s
   .rw[aG H,AF,aa];have I:∀(c:List cS) (b:Bool),c.length<=2*i+1->(∀a,a∈c->mn m a)->∃p,(bif c5 (0<=wT m (i:Int) b 2 3 4) then(bj 32 c ([(cS.mk (i:Int) (if b then r.To else r.an) (if b then r.an else r.To) (wT m (i:Int) b 2 3 4))]:List cS)).bind λY=>c7 (iC (cm.mk (m.ai.length:Int) Y k j)) else c7 (iC (cm.mk (m.ai.length:Int) c k j)))=c7 (iC (cm.mk (m.ai.length:Int) p k j))/\p.length<=c.length+1/\∀a,a∈p->mn m a:=λc b A w=>by
     by_cases D:0<=wT m (i:Int) b 2 3 4
     .rw[aC D,dm (by decide) (by omega),aa];refine⟨_,rfl,by simp,λa x=>?_⟩
      rcases e4.1 x with x |x
      .exact w a x
      .rw[e0] at x;subst x;exact⟨i,r,b,v,rfl,rfl,rfl,rfl,D⟩
     .rw[aG D];exact⟨c,rfl,by omega,w⟩
    obtain⟨ad,ab,am,Z⟩:=I c false (by omega) t;obtain⟨S,N,ah,af⟩:=I ad true (by omega) Z;refine c8 (m:=qb _ _) ?_ (WI (fin _ S rfl (by omega) af) λe s=>by cases e <;> exact s)
    refine(dL ab).trans ?_
    show((nK LC m (i:Int) true).bind _)=_
    rw[AF,aa];exact(dL N).trans rfl
  .obtain⟨c,rfl,z,t⟩:=n;show Ok (pS LC m o k j (cm.mk (m.ai.length:Int) c k j) (m.af.length:Int)) _
   unfold pS;rw[aG];exact ae ⟨c,rfl,z,t⟩
 .obtain⟨c,rfl,z,t⟩:=s;exact ae ⟨⟨rfl,O,T,X,by show c.length<=300;omega,λa w=>(t a w).ok F⟩,t⟩
def ahu{b:ak}{c:bE}:DM LC b c=(w9 LC b c).bind λf=>c7 (JJ f):=by
 unfold DM w9;cases i:(gP 1 false (b.ai.length:Int)) with
 |none=>rfl
 |some g=>
  simp only[aa];show((bO (λa:List Bool×Int=>u5 LC b a.1 a.2) (g,0)).bind _)=((bO (λa:List Bool×Int=>u5 LC b a.1 a.2) (g,0)).bind _).bind _
  cases k:bO (λa:List Bool×Int=>u5 LC b a.1 a.2) (g,0) with
  |none=>rfl
  |some h=>
   simp only[aa];show((bO (λa:List Bool×Int=>wU LC c a.1 a.2) (h,0)).bind _)=((bO (λa:List Bool×Int=>wU LC c a.1 a.2) (h,0)).bind _).bind _
   cases j:bO (λa:List Bool×Int=>wU LC c a.1 a.2) (h,0) with
   |none=>rfl
   |some e=>
    simp only[aa];show((bO (λa:List Bool×Int=>wu LC c a.1 a.2) (g,0)).bind _)=((bO (λa:List Bool×Int=>wu LC c a.1 a.2) (g,0)).bind _).bind _
    cases l:bO (λa:List Bool×Int=>wu LC c a.1 a.2) (g,0) with
    |none=>rfl
    |some d=>
     simp only[aa];show((bO (λa:pE=>pS LC b c e d (wK e d a) (wo a)) (nC (cm.mk (b.ai.length:Int) [] e d) 0)).bind _)=((bO (λa:pE=>pS LC b c e d (wK e d a) (wo a)) (nC (cm.mk (b.ai.length:Int) [] e d) 0)).bind _).bind _
     cases bO (λa:pE=>pS LC b c e d (wK e d a) (wo a)) (nC (cm.mk (b.ai.length:Int) [] e d) 0) <;> rfl
def jF{b:Type}{a:List b}{i:Int}(c:b)(h0:0<=i)(d:i<(a.length:Int)):aj a i=c7 (a.getD i.toNat c):=by
 unfold aj;rw[if_pos h0,ee,c6 (by omega)]
 rfl
def get_at{b:Type}{a:List b}{i:Int}(c:b)(h0:0<=i)(d:i<(a.length:Int)):a[i.toNat]?=c7 (a.getD i.toNat c):=by
 rw[ee,c6 (by omega)]
 rfl
def jl(f:cm)(a:cS):Bool:=!(f.safe.getD a.from_.toNat false)&&!(f.bad.getD a.b9.toNat false)
def SH{f:cm}{g:Nat}(b:mA f g){a:cS}(e:a∈f.steps):wJ LC f a=c7 (jl f a):=by
 obtain⟨c,d,_⟩:=b.st a e;have h:=b.safe;have i:=b.bad;unfold wJ jl;rw[jF false c.1 (by omega),aa,jF false d.1 (by omega),aa];cases f.safe.getD a.from_.toNat false <;> rfl
abbrev ig:da:=⟨0,0⟩
def cg(a:List da)(p:Int):da:=a.getD p.toNat ig
def kp(a b:da):Prop:=a.time<b.time\/(a.time=b.time/\a.roads<b.roads)
instance (a b:da):Decidable (kp a b):=by unfold kp;infer_instance
def kx(a:da)(b:cS):da:=⟨a.time+b.time,a.roads+1⟩
def W6(c b:da):zX LC c b=c7 (c5 (kp c b)):=by
 unfold zX
 by_cases d:c.time<b.time
 .rw[aC d,decide_eq_true (show kp c b from .inl d)]
 rw[aG d]
 by_cases e:c.time=b.time
 .rw[aC e]
  congr 1
  exact decide_eq_decide.2 ⟨λa=>.inr ⟨e,a⟩,λa=>a.elim (λa=>absurd a d) λa=>a.2⟩
 .rw[aG e,decide_eq_false (show ¬kp c b from λa=>a.elim d λa=>e a.1)]
def alH{a:List da}{p q:Int}{v:da}(c:0<=p)(e:0<=q)(d:q<(a.length:Int)):cg (a.set q.toNat v) p=if p=q then v else cg a p:=by
 unfold cg;rw[ee,hI]
 by_cases b:p=q
 .subst b;rw[if_pos rfl,if_pos rfl,if_pos (by omega)]
  rfl
 .rw[if_neg b,if_neg (by omega),ee]
def mv(a:da):Nat:=(a.time*1180591620717411303424+a.roads).toNat
def mu(a:List da):Nat:=(a.map mv).sum
def RF:∀(a:List da) (b:Nat) (v:da),b<a.length->mv v<mv (a.getD b ig)->mu (a.set b v)<mu a
 |[],b,v,d,_=>absurd d (by simp)
 |e::a,0,v,_,c=>by
  unfold mu;simp only[hX,km,n1,List.getD_cons_zero] at c⊢;omega
 |e::a,b+1,v,d,c=>by
  have f:=RF a b v (by simpa using d) (by simpa using c);unfold mu at f⊢;simp only[l2,km,n1];omega
structure CI (f:cm) (n:Nat) (c:List da):Prop where
 len:c.length=n
 oV:∀p:Int,0<=p->p<(n:Int)->0<=(cg c p).roads/\(cg c p).roads<=(cg c p).time/\(cg c p).time<=(1152921504606846976:Int)/\((cg c p).time=(1152921504606846976:Int)->(cg c p).roads=0)
 sf:∀p:Int,0<=p->p<(n:Int)->f.safe.getD p.toNat false=true->cg c p=ig
 Ts:∀p:Int,0<=p->p<(n:Int)->f.safe.getD p.toNat false=false->(cg c p).time<(1152921504606846976:Int)->∃s,s∈f.steps/\s.from_=p/\jl f s=true/\¬kp (cg c p) (kx (cg c s.b9) s)
def ae7{f:cm}{d:Nat}(o:mA f d):Ok (bO (λc:List da×Int=>zV LC (ec d ig) f c.1 c.2) (ec d ig,0)) (CI f d):=by
 have v:=o.sM;have u:=o.safe;refine di d (λi c=>c.2=(i:Int)/\c.1.length=d/\∀p:Nat,p<d->c.1.getD p ig=if p<i/\f.safe.getD p false=false then⟨(1152921504606846976:Int),0⟩ else ig) _ (λi c t m=>?_) (λc m=>?_) _ ⟨rfl,e6,λp k=>?_⟩
 .obtain⟨s,a⟩:=c;obtain⟨rfl,g,e⟩:=m;dsimp only at g e⊢;unfold zV;have r:=e i t;rw[if_neg (by omega)] at r;rw[aC (by rw[e6];omega),jF false (by omega) (by omega),aa,jF ig (by omega) (by omega),aa,get_at ig (by omega) (by omega),aa,dk,r,aJ];cases j:f.safe.getD i false with
  |true=>
   simp only[fe,cond_false,aa];refine ae ⟨rfl,g,λp k=>?_⟩
   dsimp only;rw[e p k]
   by_cases l:p=i
   .subst l;rw[if_neg (by omega),if_neg (by rw[j];simp)]
   .have:(p<i/\f.safe.getD p false=false)↔(p<i+1/\f.safe.getD p false=false):=⟨λa=>⟨by omega,a.2⟩,λa=>⟨by omega,a.2⟩⟩
    by_cases b:p<i/\f.safe.getD p false=false
    .rw[if_pos b,if_pos (this.1 b)]
    .rw[if_neg b,if_neg (λa=>b (this.2 a))]
  |false=>
   simp only[k7,cond_true,aa];refine ae ⟨rfl,by dsimp only;rw[dT];exact g,λp k=>?_⟩
   dsimp only;rw[ee,hI]
   by_cases l:i=p
   .subst l;rw[if_pos rfl,if_pos (by omega),if_pos ⟨by omega,j⟩]
    rfl
   .rw[if_neg l, <-ee,e p k];have:(p<i/\f.safe.getD p false=false)↔(p<i+1/\f.safe.getD p false=false):=⟨λa=>⟨by omega,a.2⟩,λa=>⟨by omega,a.2⟩⟩
    by_cases b:p<i/\f.safe.getD p false=false
    .rw[if_pos b,if_pos (this.1 b)]
    .rw[if_neg b,if_neg (λa=>b (this.2 a))]
 .obtain⟨s,a⟩:=c;obtain⟨rfl,g,e⟩:=m;dsimp only at g e⊢;unfold zV;rw[aG (by rw[e6];omega)];have n:∀p:Int,0<=p->p<(d:Int)->cg s p=if f.safe.getD p.toNat false=false then⟨(1152921504606846976:Int),0⟩ else ig:=λp h0 h=>by
   unfold cg;rw[e p.toNat (by omega)]
   by_cases b:f.safe.getD p.toNat false=false
   .rw[if_pos b,if_pos ⟨by omega,b⟩]
   .rw[if_neg b,if_neg (λa=>b a.2)]
  refine ae ⟨g,λp h0 h=>?_,λp h0 h j=>?_,λp h0 h j q=>?_⟩
  .rw[n p h0 h]
   split <;> simp
  .rw[n p h0 h,j];rfl
  .rw[n p h0 h,if_pos j] at q;exact absurd q (by simp)
 .rw[if_neg (by omega),ee,hz,if_pos k]
  rfl
def ab5{f:cm}{n:Nat}(B:mA f n){e:List da}(h0:CI f n e):Ok (bO (λa:List da×Bool×Int=>AB LC f a.1 a.2.1 a.2.2) (e,false,0)) λz=>CI f n z.1/\(z.2=true->mu z.1<mu e)/\(z.2=false->z.1=e/\∀a,a∈f.steps->jl f a=true->(cg e a.b9).time<(1152921504606846976:Int)->¬kp (kx (cg e a.b9) a) (cg e a.from_)):=by
 have ac:=B.num;refine di f.steps.length (λi a=>a.2.2=(i:Int)/\CI f n a.1/\(a.2.1=true->mu a.1<mu e)/\(a.2.1=false->a.1=e/\∀(h:Nat) j,h<i->f.steps[h]?=c7 j->jl f j=true->(cg e j.b9).time<(1152921504606846976:Int)->¬kp (kx (cg e j.b9) j) (cg e j.from_))) _ (λi a K F=>?_) (λa F=>?_) _ ⟨rfl,h0,(by intro d;cases d),λ_=>⟨rfl,λh j A=>absurd A (by omega)⟩⟩
 .obtain⟨c,b,m⟩:=a;obtain⟨rfl,g,q,k⟩:=F;dsimp only at g q k⊢;have G:=c6 K;have D:=dd K;generalize f.steps[i]=a at G D;obtain⟨s,y,ad,ag⟩:=B.st a D;have X:=g.len;have Z:=g.oV a.b9 y.1 y.2;have M:=g.oV a.from_ s.1 s.2;unfold AB;rw[aC,bn,G,aa,jF ig y.1 (by omega),aa,get_at ig y.1 (by omega),aa,aa,aa,SH B D,aa];rw[jF ig s.1 (by omega),get_at ig s.1 (by omega)];rw[show oo c a.b9.toNat ig=cg c a.b9 from rfl,show oo c a.from_.toNat ig=cg c a.from_ from rfl,aJ (n:=(cg c a.b9).time+a.time),aJ (n:=(cg c a.b9).roads+1)];simp only[aa,W6];have U:(bif jl f a then(bif c5 ((cg c a.b9).time<1152921504606846976) then c7 (c5 (kp (da.mk ((cg c a.b9).time+a.time) ((cg c a.b9).roads+1)) (cg c a.from_))) else c7 false) else c7 false)=c7 (c5 (jl f a=true/\(cg c a.b9).time<(1152921504606846976:Int)/\kp (kx (cg c a.b9) a) (cg c a.from_))):=by
   cases r:jl f a with
   |false=>simp
   |true=>
    simp only[cond_true,true_and]
    by_cases C:(cg c a.b9).time<(1152921504606846976:Int)
    .rw[aC C]
     congr 1
     exact decide_eq_decide.2 ⟨λm=>⟨C,m⟩,λm=>m.2⟩
    .rw[aG C,decide_eq_false (λm=>C m.1)]
  refine c8 U ?_
  by_cases x:jl f a=true/\(cg c a.b9).time<(1152921504606846976:Int)/\kp (kx (cg c a.b9) a) (cg c a.from_)
  .rw[aC x,aa,aJ];obtain⟨u1,u2,u3⟩:=x;have N:a.b9≠a.from_:=λd=>by
    rw[d] at u3;rcases u3 with u3 |u3
    .have:(cg c a.from_).time+a.time<(cg c a.from_).time:=u3;omega
    .have:(cg c a.from_).time+a.time=(cg c a.from_).time:=u3.1;omega
   have af:(cg c a.b9).time+a.time<(1152921504606846976:Int):=by
    rcases u3 with u3 |u3
    .have:(cg c a.b9).time+a.time<(cg c a.from_).time:=u3;omega
    .have R:(cg c a.b9).time+a.time=(cg c a.from_).time:=u3.1;have O:(cg c a.b9).roads+1<(cg c a.from_).roads:=u3.2;have ab:=M.2.2.2;omega
   have V:f.safe.getD a.from_.toNat false=false:=by
    unfold jl at u1;cases d:f.safe.getD a.from_.toNat false with
    |false=>rfl
    |true=>rw[d] at u1;simp at u1
   have o:∀p:Int,0<=p->cg (c.set a.from_.toNat (da.mk ((cg c a.b9).time+a.time) ((cg c a.b9).roads+1))) p=if p=a.from_ then kx (cg c a.b9) a else cg c p:=λp w=>alH w s.1 (by omega)
   have H:mu (c.set a.from_.toNat (da.mk ((cg c a.b9).time+a.time) ((cg c a.b9).roads+1)))<mu c:=by
    refine RF _ _ _ (by omega) ?_
    show mv (kx (cg c a.b9) a)<mv (cg c a.from_)
    unfold mv kx;dsimp only;rcases u3 with u3 |u3
    .have:(cg c a.b9).time+a.time<(cg c a.from_).time:=u3;omega
    .have R:(cg c a.b9).time+a.time=(cg c a.from_).time:=u3.1;have O:(cg c a.b9).roads+1<(cg c a.from_).roads:=u3.2;omega
   refine ae ⟨by dsimp only;omega,⟨by dsimp only;rw[dT];exact X,λp l t=>?_,λp l t u=>?_,λp l t u E=>?_⟩,λ_=>?_,(by intro d;cases d)⟩
   .dsimp only;rw[o p l]
    split
    .unfold kx;dsimp only;omega
    .exact g.oV p l t
   .dsimp only;rw[o p l,if_neg (λd=>by rw[d,V] at u;cases u)];exact g.sf p l t u
   .dsimp only at E⊢;rw[o p l] at E⊢
    by_cases w:p=a.from_
    .rw[if_pos w];refine⟨a,D,w.symm,u1,?_⟩
     rw[o _ y.1,if_neg N];intro d;rcases d with d |d
     .exact absurd d (q3 _)
     .exact absurd d.2 (q3 _)
    .rw[if_neg w] at E⊢;obtain⟨v,I,L,S,J⟩:=g.Ts p l t u E;refine⟨v,I,L,S,?_⟩
     rw[o _ (B.st v I).2.1.1]
     split
     .rename_i Q;intro d;refine J ?_
      rw[Q];unfold kp kx at d u3⊢;dsimp only at d u3⊢;omega
     .exact J
   .dsimp only;cases b with
    |true=>exact Nat.lt_trans H (q rfl)
    |false=>rw[(k rfl).1] at H⊢;exact H
  .rw[aG x,aa,aJ];refine ae ⟨by dsimp only;omega,g,q,λd=>⟨(k d).1,λh j A r=>?_⟩⟩
   by_cases Y:h<i
   .exact(k d).2 h j Y r
   .have:h=i:=by omega
    subst this;rw[G] at r;injection r with r
    subst r;rw[(k d).1] at x;exact λT P W=>x ⟨T,P,W⟩
 .obtain⟨c,b,m⟩:=a;obtain⟨rfl,g,q,k⟩:=F;dsimp only at g q k⊢;unfold AB;rw[aG];refine ae ⟨g,q,λd=>⟨(k d).1,λa o=>?_⟩⟩
  obtain⟨h,A,rfl⟩:=e5.1 o;exact(k d).2 h _ A (c6 A)
structure N7 (f:cm) (n:Nat) (c:List da):Prop where
 ci:CI f n c
 nx:∀p:Int,0<=p->p<(n:Int)->f.safe.getD p.toNat false=false->(cg c p).time<(1152921504606846976:Int)->∃s,s∈f.steps/\s.from_=p/\jl f s=true/\cg c p=kx (cg c s.b9) s
def ajU{f:cm}{j:Nat}(d:mA f j):Ok (Bg LC f) (N7 f j):=by
 have J:=d.sM;unfold Bg;rw[d.MP,nS (by omega) (by omega),aa,dk];refine aD (ae7 d) λI y=>?_
 refine aD (Q:=N7 f j) ?_ λH u=>ae u
 refine oa (λa=>CI f j a.1/\(a.2=false->∀c,c∈f.steps->jl f c=true->(cg a.1 c.b9).time<(1152921504606846976:Int)->¬kp (kx (cg a.1 c.b9) c) (cg a.1 c.from_))) (λa=>2*mu a.1+(if a.2 then 1 else 0)) _ (λa A=>?_) _ ⟨y,(by intro k;cases k)⟩
 obtain⟨g,b⟩:=a;obtain⟨e,m⟩:=A;dsimp only at e m⊢;unfold Tg;cases b with
 |true=>
  rw[cond_true];refine aD (ab5 d e) λE i=>ae ⟨⟨i.1,λk=>?_⟩,?_⟩
  .obtain⟨z,w⟩:=i.2.2 k;dsimp only;rw[z];exact w
  .dsimp only;cases n:E.2 with
   |true=>have:=i.2.1 n;simp;omega
   |false=>rw[(i.2.2 n).1];simp
 |false=>
  rw[cond_false];refine ae ⟨e,λp v t x D=>?_⟩
  obtain⟨a,l,q,r,h⟩:=e.Ts p v t x D;obtain⟨F,o,L,K⟩:=d.st a l;have G:=e.oV a.b9 o.1 o.2;refine⟨a,l,q,r,?_⟩
  have B:(cg g a.b9).time<(1152921504606846976:Int):=by
   unfold kp kx at h;dsimp only at h;omega
  have:=m rfl a l r B;rw[q] at this;unfold kp kx at h this;unfold kx;dsimp only at h this;have C:(cg g p).time=(cg g a.b9).time+a.time:=by omega
  have s:(cg g p).roads=(cg g a.b9).roads+1:=by omega
  rw[<-C, <-s]
def lL(f:cm):Int->List cS->Int->Prop
 |c,[],b=>c=b
 |c,a::d,b=>a∈f.steps/\jl f a=true/\a.from_=c/\lL f a.b9 d b
def lL.snoc{f:cm}:∀{a:Int} {j:List cS} {b:Int},lL f a j b->∀{s:cS},s∈f.steps->jl f s=true->s.from_=b->lL f a (j++[s]) s.b9
 |a,[],b,h,s,c,e,d=>⟨c,e,d.trans (show a=b from h).symm,rfl⟩
 |a,k::j,b,h,s,c,e,d=>⟨h.1,h.2.1,h.2.2.1,lL.snoc h.2.2.2 c e d⟩
def gz(a:List cS):Int:=(a.map (·.time)).sum
structure mC (f:cm) (p:Int) (ss:List cS):Prop where
 ex:∃q,lL f p ss q/\0<=q/\f.safe.getD q.toNat false=true
 nd:(p::ss.map (·.b9)).Nodup
def lL.mem{f:cm}:∀{a:Int} {d:List cS} {b:Int},lL f a d b->∀s,s∈d->s∈f.steps/\jl f s=true
 |a,[],b,h,s,c=>by cases c
 |a,e::d,b,h,s,c=>by
  rcases kl.1 c with rfl |c
  .exact⟨h.1,h.2.1⟩
  .exact lL.mem h.2.2.2 s c
def Rv{n:Nat}{b:List Int}(e:b.Nodup)(c:∀a,a∈b->0<=a/\a<(n:Int)):b.length<=n:=by
 have:=Fb b ((List.range n).map Int.ofNat) e λa d=>by
  obtain⟨h0,f⟩:=c a d;exact j8.2 ⟨a.toNat,ma.2 (by omega),by show(a.toNat:Int)=a;omega⟩
 simpa using this
def mC.len{f:cm}{n:Nat}(d:mA f n){p:Int}(e:0<=p/\p<(n:Int)){c:List cS}(h:mC f p c):c.length<n:=by
 obtain⟨q,j,_⟩:=h.ex;have:=Rv (n:=n) h.nd λx a=>by
  rcases kl.1 a with rfl |a
  .exact e
  .obtain⟨s,k,rfl⟩:=j8.1 a;exact(d.st s (j.mem s k).1).2.1
 simp at this;omega
def KZ{f:cm}{e:Nat}(b:mA f e):∀{ss:List cS},(∀a,a∈ss->a∈f.steps)->0<=gz ss/\gz ss<=1000099*(ss.length:Int)
 |[],_=>by simp[gz]
 |a::ss,c=>by
  have g:=KZ b (ss:=ss) λd h=>c d (by simp[h])
  have:=(b.st a (c a (by simp))).2.2;unfold gz at g⊢;simp only[km,n1,ez];omega
def amX(a:List cS)(b:cS):gz (a++[b])=gz a+b.time:=by
 unfold gz;rw[hK,List.sum_append];simp
def sG(f:cm)(b:List da)(c:Int)(a:cS):Bool:=c5 (a.from_=c/\jl f a=true/\(cg b a.b9).time=(cg b c).time -a.time/\(cg b a.b9).roads=(cg b c).roads -1)
def ab4{f:cm}{n:Nat}(i:mA f n){c:List da}(h:CI f n c){a:Int}(e:0<=a/\a<(n:Int)){b:cS}(j:b∈f.steps):EN LC b a f c=c7 (sG f c a b):=by
 obtain⟨l,g,p,q⟩:=i.st b j;have r:=h.len;have m:=h.oV b.b9 g.1 g.2;have o:=h.oV a e.1 e.2;unfold EN sG
 by_cases d:b.from_=a
 rotate_left
 .rw[aG d,decide_eq_false (λk=>d k.1)]
 rw[aC d,SH i j,aa];cases s:jl f b with
 |false=>rw[cond_false,decide_eq_false (by simp)]
 |true=>
  rw[cond_true,jF ig g.1 (by omega),aa,jF ig e.1 (by omega)];simp only[aa];rw[show oo c b.b9.toNat ig=cg c b.b9 from rfl,show oo c a.toNat ig=cg c a from rfl,aJ (n:=(cg c a).time -b.time),aJ (n:=(cg c a).roads -1)]
  congr 1
  rw[m5];simp[d]
def LA{f:cm}{n:Nat}(g:mA f n){p:Int}(u:0<=p/\p<(n:Int)):Ok (yN LC f p) λr=>r.2.2.2=true->∃a,mC f p a/\r.1=a.map (·.gX)/\r.2.1=p::a.map (·.b9)/\r.2.2.1=gz a:=by
 have ac:=g.sM;have V:=g.safe;have Y:=g.num;unfold yN;refine aD (ajU g) λc j=>?_
 have af:=j.ci.len;rw[jF ig u.1 (by omega),aa];refine aV (λ_=>ae (by intro J;cases J)) (λG=>?_)
 have N:(cg c p).time<(1152921504606846976:Int):=by
  have:¬(1152921504606846976:Int)<=(cg c p).time:=G;omega
 refine aD (Q:=λy=>∃a,mC f p a/\y.2=a.map (·.gX)/\y.1=p::a.map (·.b9)/\(cg c p).time=gz a) ?_ λy I=>?_
 .refine oa (λb=>∃a,lL f p a b.2.2/\(p::a.map (·.b9)).Nodup/\b.2.1=a.map (·.gX)/\b.1=p::a.map (·.b9)/\(cg c p).time=gz a+(cg c b.2.2).time/\(0<=b.2.2/\b.2.2<(n:Int))/\(cg c b.2.2).time<(1152921504606846976:Int)/\∀q,q∈p::a.map (·.b9)->(cg c b.2.2).roads<=(cg c q).roads) (λb=>(cg c b.2.2).roads.toNat) _ (λb K=>?_) _ ⟨[],(by show p=p;rfl),by simp,rfl,rfl,by simp[gz],u,N,λq e=>by simp at e;rw[e];exact ey _⟩
  obtain⟨W,Z,at_⟩:=b;obtain⟨a,k,m,rfl,rfl,s,d,B,t⟩:=K;dsimp only at k s d B t⊢;have L:=k.mem;have O:(p::a.map (·.b9)).length<=n:=Rv m λA h=>by
   rcases kl.1 h with rfl |h
   .exact u
   .obtain⟨b,o,rfl⟩:=j8.1 h;exact(g.st b (L b o).1).2.1
  have ab:a.length+1<=n:=by simpa using O
  unfold Lo;rw[jF false d.1 (by omega),aa];cases x:f.safe.getD at_.toNat false with
  |true=>
   simp only[fe,cond_false];refine ae ⟨a,⟨⟨at_,k,d.1,x⟩,m⟩,rfl,rfl,?_⟩
   rw[s,j.ci.sf _ d.1 d.2 x];exact q4 _
  |false=>
   simp only[k7,cond_true];obtain⟨l,u1,u2,u3,u4⟩:=j.nx at_ d.1 d.2 x B;have v:Aj LC f.steps at_ f c=c7 (gg (sG f c at_) f.steps):=by
    unfold Aj;exact fF (by omega) (λA h=>ab4 g j.ci d h) λb=>rfl
   have M:0<=gg (sG f c at_) f.steps:=Aw.2 ⟨l,u1,by
    unfold sG;refine decide_eq_true ⟨u2,u3,?_,?_⟩
    .rw[u4];show _=(cg c l.b9).time+l.time -l.time;omega
    .rw[u4];show _=(cg c l.b9).roads+1 -1;omega⟩
   obtain⟨i,b,F,o,z,_⟩:=HN M;have C:=fC o;obtain⟨S,w,ai,ah⟩:=g.st b C;unfold sG at z;obtain⟨P,R,X,ad⟩:=of_decide_eq_true z;have U:=j.ci.oV at_ d.1 d.2;have T:=j.ci.oV b.b9 w.1 w.2;rw[v,aa,F,bn,o];simp only[aa];rw[pN (by simp;omega),aa,pN (by simp;omega),aa];refine ae ⟨⟨a++[b],k.snoc C R P,?_,by simp,by simp,?_,w,?_,?_⟩,?_⟩
   .rw[hK, <-oq,List.nodup_append];refine⟨m,by simp,λA h ag D=>?_⟩
    simp at D;subst D;intro v;subst v;have:=t _ h;omega
   .dsimp only;rw[amX,s];omega
   .dsimp only;omega
   .dsimp only;intro q e;rw[hK, <-oq] at e;rcases e4.1 e with e |e
    .have:=t q e;omega
    .simp at e;rw[e];exact ey _
   .dsimp only;omega
 .obtain⟨a,k,m,H,E⟩:=I;rw[aa];exact ae λ_=>⟨a,k,m,H,E⟩
def acq{b:List cS}{a:List Int}(h:b.length<=300)(j:a.length<=300):Bm LC b a=c7 (b.filter λc=>!c5 (c.gX∈a)):=by
 have e:∀d,d∈b->ye LC d a=c7 (c5 (d.gX∈a)):=λd _=>by
  unfold ye;rw[contains_eq (by show a.length<=_;omega),aa]
 unfold Bm;have f:AM LC b a=c7 (gg (λc=>c5 (c.gX∈a)) b):=by
  unfold AM;exact fF (by omega) e λc=>rfl
 rw[f,aa];exact Hs (by omega) e λc i g=>rfl
def mC.up{f g:cm}(e:∀s,s∈g.steps->s∈f.steps)(d:g.safe=f.safe)(l:∀k,f.bad.getD k false=true->g.bad.getD k false=true){p:Int}{a:List cS}(h:mC g p a):mC f p a:=by
 obtain⟨q,w,m,n⟩:=h.ex;refine⟨⟨q,?_,m,by rw[<-d];exact n⟩,h.nd⟩
 have key:∀(a:List cS) (p:Int),lL g p a q->lL f p a q:=by
  intro a
  induction a with
  |nil=>exact λp h=>h
  |cons s a x=>
   intro p h;obtain⟨o,c,u,j⟩:=h;refine⟨e s o,?_,u,x _ j⟩
   unfold jl at c⊢;rw[d] at c;have:=l s.b9.toNat;cases t:f.bad.getD s.b9.toNat false with
   |false=>rw[k7,Bool.and_true];exact(Bool.and_eq_true _ _▸c).1
   |true=>rw[this t] at c;simp at c
 exact key a p w
structure xU (m:ak) (e:bE) (p:Int) (r:List Int×List Int×ju) (ss1 ss2:List cS) (f:cm):Prop where
 there:lH m e/\0<=p/\p<=(m.ai.length:Int) -1
 find:w9 LC m e=c7 f
 fin:mA f m.ai.length
 so:∀s,s∈f.steps->mn m s
 p1:mC f p ss1
 p2:mC f p ss2
 r1:r.1=ss1.map (·.gX)
 r2:r.2.1=ss2.map (·.gX)
 t:r.2.2=⟨gz ss1,gz ss2⟩
 dis:∀s,s∈ss2->s.gX∉ss1.map (·.gX)
def S9{e:ak}{t:bE}{p:Int}(I:lO t)(V:Fit e.ai):Ok (r7 LC e t p) λr=>(r.2.2.2=false->r.1=[]/\r.2.1=[])/\(r.2.2.2=true->∃P s f,xU e t p (r.1,r.2.1,r.2.2.1) P s f):=by
 unfold r7;rw[ahk I V,aa]
 by_cases d:lH e t/\0<=p/\p<=(e.ai.length:Int) -1
 rotate_left
 .rw[decide_eq_false d];exact ae ⟨λ_=>⟨rfl,rfl⟩,by intro c;cases c⟩
 rw[decide_eq_true d,fe,cond_false,ahu];obtain⟨f,y,b,A⟩:=aol d.1;rw[y,aa,aa];dsimp only;rw[show Lk (JJ f)=f from rfl];have Y:=b.safe;have X:=b.sM;have S:=b.bad;rw[jF false d.2.1 (by omega),aa];cases F:f.safe.getD p.toNat false with
 |true=>exact ae ⟨(by intro c;cases c),λ_=>⟨[],[],f,d,y,b,A,⟨⟨p,rfl,d.2.1,F⟩,by simp⟩,⟨⟨p,rfl,d.2.1,F⟩,by simp⟩,rfl,rfl,rfl,λa k=>by cases k⟩⟩
 |false=>
  rw[cond_false];have v:0<=p/\p<(e.ai.length:Int):=⟨d.2.1,by omega⟩;refine aD (LA b v) λr m=>?_
  obtain⟨U,R,M,z⟩:=r;dsimp only at m⊢;cases z with
  |false=>exact ae ⟨λ_=>⟨rfl,rfl⟩,by intro c;cases c⟩
  |true=>
   obtain⟨h,u,rfl,rfl,rfl⟩:=m rfl;have Z:=u.len b v;obtain⟨q,N,_⟩:=u.ex;rw[fe,cond_false,l8 (by omega) (by simp;omega) (by omega),aa];refine aD (Q:=λo:List Bool=>o.length=e.ai.length/\∀j,f.bad.getD j false=true->o.getD j false=true) ?_ λo C=>?_
   .have B:(((p::h.map (·.b9)).drop ((1:Int).toNat)).take ((((p::h.map (·.b9)).length:Int)).toNat - (1:Int).toNat))=h.map (·.b9):=by
     rw[show((1:Int).toNat)=1 from rfl,List.drop_one,List.tail_cons,hM (by simp)]
    refine di h.length (λi a=>a.2=(i:Int)/\a.1.length=e.ai.length/\∀j,f.bad.getD j false=true->a.1.getD j false=true) _ (λi a H w=>?_) (λa w=>?_) _ ⟨rfl,S,λj c=>c⟩
    .obtain⟨T,j⟩:=a;obtain⟨rfl,n,l⟩:=w;dsimp only at n l⊢;unfold I9;dsimp only;have x:=c6 H;have G:=dd H;generalize h[i]=a at x G;have E:=(b.st a (N.mem a G).1).2.1;rw[B,aC (by rw[eE];omega),bn,o7,x,pc,aa,show(1:Int).toNat+((i:Int)).toNat=i+1 by omega,List.getElem?_cons_succ,o7,x,pc,aa,jF false E.1 (by omega),aa,get_at false E.1 (by omega),aa,aJ];refine ae ⟨rfl,by dsimp only;rw[dT];exact n,λJ W=>?_⟩
     dsimp only;rw[ee,hI]
     split
     .rename_i ab;rw[if_pos (by omega)]
      rfl
     .rw[<-ee];exact l J W
    .obtain⟨T,j⟩:=a;obtain⟨rfl,n,l⟩:=w;dsimp only at n l⊢;unfold I9;dsimp only;rw[B,aG (by rw[eE];omega)];exact ae ⟨n,l⟩
   .rw[acq b.num (by rw[eE];omega),aa];have K:mA ({f with steps:=f.steps.filter λa=>!c5 (a.gX∈h.map (·.gX)),bad:=o}:cm) e.ai.length:=⟨b.MP,b.sM,b.safe,C.1,h9 (kd _ _) b.num,λa k=>b.st a (l1.1 k).1⟩;refine aD (LA K v) λr m=>?_
    obtain⟨U,R,M,z⟩:=r;dsimp only at m⊢;cases z with
    |false=>exact ae ⟨λ_=>⟨rfl,rfl⟩,by intro c;cases c⟩
    |true=>
     obtain⟨s,D,rfl,rfl,rfl⟩:=m rfl;have O:mC f p s:=mC.up (f:=f) (g:=({f with steps:=f.steps.filter λa=>!c5 (a.gX∈h.map (·.gX)),bad:=o}:cm)) (λa k=>(l1.1 k).1) rfl C.2 D;refine ae ⟨(by intro c;cases c),λ_=>⟨h,s,f,d,y,b,A,u,O,rfl,rfl,rfl,λa k=>?_⟩⟩
     obtain⟨ac,L,_⟩:=D.ex;have:=(l1.1 (L.mem a k).1).2;simpa using this
def ann{m:ak}{p:Int}(q:m.af.length<=1000):Ok (v7 LC m p) λr=>0<=r/\r<=1000099:=by
 unfold v7;refine aD (Q:=λr:Int=>0<=r/\r<=1000099) ?_ λr f=>ae f
 have g:∀(i:Nat) (b:Bool),wT m (i:Int) b 2 3 4<=1000099:=λi b=>by
  rcases rF m (i:Int) b (u:=2) (d:=3) (l:=4) (by decide) with j |j <;> omega
 refine di m.af.length (λi a=>a.2=(i:Int)/\0<=a.1/\a.1<=1000099) _ (λi a n e=>?_) (λa e=>?_) _ ⟨rfl,ey _,by decide⟩
 .obtain⟨k,o⟩:=a;obtain⟨rfl,h0,c⟩:=e;dsimp only at h0 c⊢;unfold Kb;rw[aC,bn,c6 n,aa,AF,AF];have t:=g i false;have s:=g i true;simp only[aa];rw[aJ];refine aD (Q:=λr:Int=>0<=r/\r<=1000099) ?_ λr f=>aD (Q:=λr:Int=>0<=r/\r<=1000099) ?_ λv h=>ae ⟨rfl,h⟩
  .exact aV (λ_=>ae (by omega)) (λ_=>ae ⟨h0,c⟩)
  .exact aV (λ_=>ae (by omega)) (λ_=>ae f)
 .obtain⟨k,o⟩:=a;obtain⟨rfl,h0,c⟩:=e;dsimp only at h0 c⊢;unfold Kb;rw[aG];exact ae ⟨h0,c⟩
def xU.time{m:ak}{e:bE}{p:Int}{r:List Int×List Int×ju}{c a:List cS}{f:cm}(h:xU m e p r c a f):(0<=gz c/\gz c<=64006336)/\0<=gz a/\gz a<=64006336:=by
 have j:0<=p/\p<(m.ai.length:Int):=⟨h.there.2.1,by have:=h.there.2.2;omega⟩;have o:=h.p1.len h.fin j;have l:=h.p2.len h.fin j;have u:=h.fin.sM;obtain⟨x,c1,_⟩:=h.p1.ex;obtain⟨t,k,_⟩:=h.p2.ex;have n:=KZ h.fin λs d=>(c1.mem s d).1
 have w:=KZ h.fin λs d=>(k.mem s d).1
 omega
noncomputable def od(a:ak)(b:bE)(p:Int):Bool:=(r6 LC a b p).getD false
def L1{m:ak}{d:bE}{p:Int}(j:lO d)(t:Fit m.ai)(n:m.af.length<=1000):Ok (r6 LC m d p) λb=>b=true->∃r e c f a,r7 LC m d p=c7 (r.1,r.2.1,r.2.2,true)/\xU m d p r e c f/\v7 LC m p=c7 a/\(0<=a/\a<=1000099)/\a+gz e<=d.er/\a+gz c<=d.er:=by
 unfold r6;obtain⟨s,q,_,i⟩:=S9 (p:=p) j t;rw[q,aa];obtain⟨u,w,o,k⟩:=s;dsimp only at i⊢;cases k with
 |false=>exact ae (by intro h;cases h)
 |true=>
  obtain⟨e,c,f,g⟩:=i rfl;obtain⟨a,x,l⟩:=ann (m:=m) (p:=p) n;rw[cond_true,x,aa];have y:=g.time;have v:o=⟨gz e,gz c⟩:=g.t;subst v;dsimp only;rw[aJ];refine ae λh=>⟨(u,w,⟨gz e,gz c⟩),e,c,f,a,rfl,g,rfl,l,?_⟩
  have:=of_decide_eq_true h;omega
def U2{a:ak}{c:bE}{p:Int}(d:lO c)(e:Fit a.ai)(f:a.af.length<=1000):r6 LC a c p=c7 (od a c p):=by
 obtain⟨b,g,_⟩:=L1 (p:=p) d e f;unfold od;rw[g]
 rfl
def Ut{a:List Int}(d:Fit a):EZ LC a []=c7 false:=by
 unfold EZ;have c:zW LC a []=c7 (gg (λ_=>false) a):=by
  unfold zW;refine fF (P:=λb=>E7 LC b []) d (λb _=>?_) λe=>rfl
  unfold E7;rw[contains_eq (by show(0:Nat)<=_;omega),aa];simp
 rw[c,aa,gm];simp
def Le{m:ak}{l:List Int}(k:l=[]\/∃a,l=[a])(p:Sm m.ai)(q:Sm m.af):Ok (yB LC m l []) λr=>(r.2=0/\cP m/\∀a,l=[a]->(0<=a/\a<(m.af.length:Int))/\r.1=cY m a)\/r.2≠0:=by
 unfold yB;rw[ko,aa]
 by_cases e:cP m
 rotate_left
 .rw[decide_eq_false e];exact ae (.inr (by simp))
 have t:=e.1;have u:=e.2.1;have o:Fit l:=by
  show l.length<=_
  rcases k with c |⟨a,c⟩ <;> (rw[c];simp)
 rw[decide_eq_true e,fe,cond_false,aJ,kw _ _ _ o,aa]
 by_cases g:cj 0 ((m.af.length:Int) -1) l
 rotate_left
 .rw[decide_eq_false g];exact ae (.inr (by simp))
 rw[decide_eq_true g,fe,cond_false,kw _ _ _ (by decide),aa,decide_eq_true cj.nil,fe,cond_false,Ut o,aa,aa,cond_false,mV p,aa,nk q,aa];have j:∀i:List aZ,bO (λd:List aZ×Int=>T4 LC [] d.1 d.2) (i,0)=c7 i:=λi=>fZ rfl
 rcases k with rfl |⟨a,rfl⟩
 .have h:bO (λd:List aZ×Int=>Cj LC [] d.1 d.2) (m.af,0)=c7 m.af:=fZ rfl;refine c8 h ?_
  refine c8 (j _) ?_
  exact ae (.inl ⟨rfl,e,λa c=>by cases c⟩)
 .have n:=g.mem (e0.2 rfl);have h:bO (λd:List aZ×Int=>Cj LC [a] d.1 d.2) (m.af,0)=c7 (cY m a).af:=by
   have f:m.af[a.toNat]?=c7 (m.af[a.toNat]'(by omega)):=c6 (by omega);generalize m.af[a.toNat]'(by omega)=r at f;have s:aj m.af a=c7 r:=by unfold aj;rw[if_pos n.1];exact f
   rw[iO (a':=((cY m a).af,1)),fZ (b:=(cY m a).af)]
   .rfl
   .dsimp only;unfold Cj;rw[aC (by simp),show aj [a] 0=c7 a from rfl,aa,s,aa,f,aa];unfold cY;rw[f]
    rfl
  refine c8 h ?_
  refine c8 (j _) ?_
  refine ae (.inl ⟨rfl,e,λb c=>?_⟩)
  injection c with c _
  subst c;exact⟨⟨n.1,by omega⟩,rfl⟩
def apF{m:ak}{e:bE}{b:aL}{t a:Int}(h:lO e)(l:gF b):Ok (EU LC m e b t a) λi=>i=0->lH m e/\mz m b/\(0<=t/\t<=2147483648)/\0<=a/\a<=2147483648:=by
 unfold EU;rw[Jc h,aa]
 by_cases g:lH m e
 rotate_left
 .rw[decide_eq_false g];exact ae (by intro c;cases c)
 rw[decide_eq_true g,fe,cond_false];obtain⟨v,j,k⟩:=vB m b l;rw[j,aa,aa];cases v with
 |false=>exact ae (by intro c;cases c)
 |true=>
  rw[fe,cond_false,cF,aa]
  by_cases d:0<=t/\t<=2147483648
  rotate_left
  .rw[decide_eq_false d];exact ae (by intro c;cases c)
  rw[decide_eq_true d,fe,cond_false,cF,aa,aa]
  by_cases f:0<=a/\a<=2147483648
  rotate_left
  .rw[decide_eq_false f];exact ae (by intro c;cases c)
  rw[decide_eq_true f];exact ae λ_=>⟨g,k rfl,d,f⟩
def LS(b:aL)(c a:Int):(ld b c a).length<=64:=pQ
def abM{c:List Int}{a:ak}{b:bE}(m:c.length<=1000000)(f:lO b)(g:Fit a.ai)(k:a.af.length<=1000):zr LC c a b=c7 (c.filter λp=>!od a b p):=by
 have e:∀d,d∈c->w5 LC d a b=c7 (od a b d):=λd _=>by
  unfold w5;rw[U2 f g k,aa]
 unfold zr;have h:ER LC c a b=c7 (gg (od a b) c):=by
  unfold ER;exact fF (by omega) e λj=>rfl
 rw[h,aa];exact Hs (by omega) e λj i l=>rfl
def aa8{b a:List Int}(j:b.length<=1000000)(g:Fit a):Av LC b a=c7 (b.filter λp=>!c5 (p∈a)):=by
 have d:∀c,c∈b->za LC c a=c7 (c5 (c∈a)):=λc _=>by
  unfold za;rw[contains_eq g,aa]
 unfold Av;have e:zU LC b a=c7 (gg (λp=>c5 (p∈a)) b):=by
  unfold zU;exact fF (by omega) d λf=>rfl
 rw[e,aa];exact Hs (by omega) d λf i h=>rfl
def apc{m:ak}{e:bE}{b:aL}{t:Int}{f:ay}(q:b.aA[0]?=c7 f)(z:f.aH.length<=12)(w:gF b)(o:lO e)(x:Fit m.ai)(h:m.af.length<=1000):Ok (Bo LC m e b t) λc=>c.length<=768/\∀a:Nat,a<f.aH.length->∀p,p∈ld b (a:Int) t->p∈c\/od m e p=true:=by
 unfold Bo;rw[show aj b.aA 0=c7 f from q,aa];refine aD (Q:=λc:List Int=>c.length<=64*f.aH.length/\∀a:Nat,a<f.aH.length->∀p,p∈ld b (a:Int) t->p∈c) ?_ λc s=>?_
 .refine di f.aH.length (λi d=>d.2=(i:Int)/\d.1.length<=64*i/\∀a:Nat,a<i->∀p,p∈ld b (a:Int) t->p∈d.1) _ (λi d A n=>?_) (λd n=>?_) _ ⟨rfl,by simp,λa l=>absurd l (by omega)⟩
  .obtain⟨c,a⟩:=d;obtain⟨rfl,j,g⟩:=n;dsimp only at j g⊢;unfold Jp;have y:=LS b (i:Int) t;rw[aC,QC w,aa,aJ];refine aD (akS (by omega)) λr h=>ae ⟨by dsimp only;omega,by have:=h.1;dsimp only;omega,λa l p k=>?_⟩
   dsimp only;rw[h.2]
   by_cases v:a<i
   .exact .inl (g a v p k)
   .have:a=i:=by omega
    subst this;exact .inr k
  .obtain⟨c,a⟩:=d;obtain⟨rfl,j,g⟩:=n;dsimp only at j g⊢;unfold Jp;rw[aG];exact ae ⟨j,g⟩
 .rw[abM (by omega) o x h,aa];refine ae ⟨h9 (kd _ _) (by omega),λa l p k=>?_⟩
  cases u:od m e p with
  |true=>exact .inr rfl
  |false=>exact .inl (l1.2 ⟨s.2 a l p k,by rw[u];rfl⟩)
def gG.pR{m:ak}{b a:aL}{t:Int}(e:gF b)(n:cP m)(h:gG (λx c=>mP m x t c) b.aA a.aA):gF a:=by
 refine⟨by show a.aA.length<=_;rw[h.1];exact e.1,λy w=>?_⟩
 obtain⟨d,u,j,s,l⟩:=h.back w;have:=e.2 d u;refine⟨by rw[j];exact this.tg,by show y.aH.length<=_;rw[s];exact this.wh,λc o=>?_⟩
 obtain⟨k,A,rfl⟩:=e5.1 o;have r:=l k _ _ (c6 (show k<d.aH.length by omega)) (c6 A);have B:=r.new.1.1;have C:=n.1;show _<=1000000
 omega
def uF(b:ak)(a:Int):(cY b a).af.length=b.af.length:=by
 unfold cY;dsimp only
 split
 .rw[dT]
 .rfl
structure Pp (m:ak) (e:bE) (b:aL) (a:Int) (al:List Int) (t ahead:Int) (r:ak×List Int×Int):Prop where
 fN:cP m
 oV:0<=a/\a<(m.af.length:Int)
 out:r.1=cY m a
 hZ:mz m b
 kI:lH m e
 ex:∃b',kW LC (cY m a) b t=c7 (b',0)/\∀w0,b'.aA[0]?=c7 w0->∀k:Nat,k<w0.aH.length->∀p,p∈ld b' (k:Int) (t+ahead)->p∈al\/od (cY m a) e p=true
def Ws{m:ak}{e:bE}{b:aL}{a:Int}{al:List Int}{t ahead:Int}(i:Sm m.ai)(y:Sm m.af)(v:lO e)(s:gF b)(N:Fit al):Ok (zJ LC m e b [a] [] al t ahead) λr=>r.2.1.length<=768/\(r.2.2=0->Pp m e b a al t ahead r):=by
 unfold zJ;obtain⟨q,J,d⟩:=Le (m:=m) (l:=[a]) (.inr ⟨a,rfl⟩) i y;rw[J,aa];rcases d with⟨P,u,d⟩ |d
 rotate_left
 .rw[aC d];exact ae ⟨by simp,λc=>absurd c d⟩
 obtain⟨R,X⟩:=d a rfl;rw[aG (by rw[P];simp)];obtain⟨T,E,M⟩:=apF (m:=m) (e:=e) (b:=b) (t:=t) (a:=ahead) v s;rw[E,aa]
 by_cases j:T=0
 rotate_left
 .rw[aC j];exact ae ⟨by simp,λc=>absurd c j⟩
 obtain⟨U,A,Z,aj⟩:=M j;have W:Fit m.ai:=by have:=u.1;show _<=4611686018427387904;omega
 have C:Fit (cY m a).ai:=W;have ag:=u.2.1;rw[aG (by rw[j];simp),X];obtain⟨n,D,L⟩:=Gq (cY m a) b t s C;rw[D,aa];rcases L with⟨f,Q,ab,Y,k⟩ |⟨f,_⟩
 rotate_left
 .rw[aC f];exact ae ⟨by simp,λc=>absurd c f⟩
 have O:=gG.pR s Q k;rw[aG (by rw[f];simp),aJ];have g:n.1.aA[0]?=c7 (n.1.aA[0]'(by rw[k.1];omega)):=c6 _;generalize n.1.aA[0]'(by rw[k.1];omega)=ac at g;obtain⟨G,H,ai,ad,_⟩:=k.back (fC g);have af:=A.len G H;obtain⟨l,V,x⟩:=apc (m:=cY m a) (e:=e) (t:=t+ahead) g (by omega) O v C (by rw[uF];omega);have B:=x.1;rw[V,aa,bV (by show _<=1000000;omega),aa,aa8 (by omega) N,aa];refine aV (λc=>?_) (λc=>?_)
 .obtain⟨z,I,_⟩:=Le (m:=m) (l:=[]) (.inl rfl) i y;rw[I,aa];exact ae ⟨h9 (kd _ _) B,λc=>by cases c⟩
 .refine ae ⟨B,λ_=>⟨u,R,rfl,A,U,n.1,by rw[D, <-f],λah h K S p i=>?_⟩⟩
  rw[g] at h;injection h with h
  subst h;rcases x.2 K S p i with o |o
  .refine .inl ?_
   have F:l.filter (λp=>!c5 (p∈al))=[]:=List.length_eq_zero_iff.1 (by omega)
   by_cases w:p∈al
   .exact w
   .have:=List.filter_eq_nil_iff.1 F p o;simp[w] at this
  .exact .inr o
def zb{a:List aT}(g:Sm a)(j:∀r,r∈a->Sm r.aw):ry LC a=c7 a:=by
 unfold ry;have h:=jm (f:=λd=>tV LC a d.1 d.2) a (λb i=>(b,i)) (λb=>b) (λb r k c=>by
  show tV LC a b (b.length:Int)=_
  unfold tV;have e:=jW g c;rw[aC (iy c),jg c,aa,bV (j r (ks c)),aa,dm (by decide) e,aa,aJ]) (by
  show tV LC a a (a.length:Int)=_
  unfold tV;rw[aG])
 exact(dL h).trans rfl
def Sv{a:List aT}(b:Sm a)(c:∀r,r∈a->Sm r.aw):zp LC a=c7 a:=zb b c
def sF{b:aL}(d:gF b):pf LC b=c7 b:=by
 unfold pf;have h:=jm (f:=λe=>sB LC b e.1 e.2) b.aA (λa i=>(a,i)) (λa=>a) (λa r j c=>by
  show sB LC b a (a.length:Int)=_
  unfold sB;have g:=jW d.1 c;rw[aC (iy c),jg c,aa,Tz (d.2 r (ks c)),aa,dm (by decide) g,aa,aJ]) (by
  show sB LC b b.aA (b.aA.length:Int)=_
  unfold sB;rw[aG])
 exact(dL h).trans rfl
structure EW (p:aE):Prop where
 tr:ny p.au
 pl:Sm p.ao.ai
 rd:Sm p.ao.af
 fl:Sm p.cI
 es:Sm p.bR.akL
 eb:Sm p.bR.dg
 eh:Sm p.bR.dG
 ba:Sm p.bM.bT
 pe:Sm p.cq
 pt:∀r,r∈p.cq->Sm r.aw
 he:Sm p.bZ
 ht:∀r,r∈p.bZ->Sm r.aw
 il:Sm p.cW.dl
 io:Sm p.cW.dr
 be:gF p.bw
 se:gF p.bq
 sm:Sm p.bz.an
 kr:Sm p.aa2.af
 kk:Sm p.aa2.aa2
 al:Sm p.bS
 lg:Sm p.bB
 ln:∀h,h∈p.bB->Sm h.ll
def abi{p:aE}(a:EW p):wc LC p=c7 p:=by
 unfold wc;obtain⟨q,j,h⟩:=HQ a.tr.fit;rw[j,aa,mV a.pl,aa,nk a.rd,aa,zS a.fl,aa,bV a.es,aa,bV a.eb,aa,bV a.eh,aa,bV a.ba,aa,zb a.pe a.pt,aa,zb a.he a.ht,aa,bV a.il,aa,bV a.io,aa,sF a.be,aa,sF a.se,aa,bV a.sm,aa,bV a.kr,aa,bV a.kk,aa,wE a.al,aa,h];have g:=jm (f:=λd=>tO LC p (sN d) (sE d)) p.bB (λb i=>u16 ({p with bB:=b}:aE) i) (λb=>lR ({p with bB:=b}:aE)) (λb r k c=>by
  show tO LC p ({p with bB:=b}:aE) (b.length:Int)=_
  unfold tO;have e:=jW a.lg c;rw[aC (iy c),jg c,aa,bV (a.ln r (ks c)),aa,dm (by decide) e,aa,aJ]) (by
  show tO LC p p (p.bB.length:Int)=_
  unfold tO;rw[aG])
 exact(dL g).trans rfl
def abE{p:aE}(a:EW p):Cp LC p=c7 (OE p):=by
 unfold Cp;obtain⟨q,j,h⟩:=HQ a.tr.fit;rw[j,aa,mV a.pl,aa,nk a.rd,aa,zS a.fl,aa,bV a.es,aa,bV a.eb,aa,bV a.eh,aa,bV a.ba,aa,zb a.pe a.pt,aa,zb a.he a.ht,aa,bV a.il,aa,bV a.io,aa,sF a.be,aa,sF a.se,aa,bV a.sm,aa,bV a.kr,aa,bV a.kk,aa,wE a.al,aa,h];have g:=jm (f:=λd=>uo LC p (sN d) (sE d)) p.bB (λb i=>u16 ({p with bB:=b}:aE) i) (λb=>lR ({p with bB:=b}:aE)) (λb r k c=>by
  show uo LC p ({p with bB:=b}:aE) (b.length:Int)=_
  unfold uo;have e:=jW a.lg c;rw[aC (iy c),jg c,aa,bV (a.ln r (ks c)),aa,dm (by decide) e,aa,aJ]) (by
  show uo LC p p (p.bB.length:Int)=_
  unfold uo;rw[aG])
 exact(dL g).trans rfl
def aiT{p:aE}(a:EW p):Dr LC p=c7 (IW p):=by
 unfold Dr;obtain⟨q,j,h⟩:=HQ a.tr.fit;rw[j,aa,mV a.pl,aa,nk a.rd,aa,zS a.fl,aa,bV a.es,aa,bV a.eb,aa,bV a.eh,aa,bV a.ba,aa,Sv a.pe a.pt,aa,Sv a.he a.ht,aa,bV a.il,aa,bV a.io,aa,sF a.be,aa,sF a.se,aa,bV a.sm,aa,bV a.kr,aa,bV a.kk,aa,wE a.al,aa,h];have g:=jm (f:=λd=>uS LC p (Rx p.cq p.bZ d) (Tu d)) p.bB (λb i=>J3 ({p with bB:=b}:aE) i) (λb=>Mj ({p with bB:=b}:aE)) (λb r k c=>by
  show uS LC p ({p with bB:=b}:aE) (b.length:Int)=_
  unfold uS;have e:=jW a.lg c;rw[aC (iy c),jg c,aa,bV (a.ln r (ks c)),aa,dm (by decide) e,aa,aJ]) (by
  show uS LC p p (p.bB.length:Int)=_
  unfold uS;rw[aG])
 exact(dL g).trans rfl
structure fM (n np:Nat) (b:aL):Prop where
 num:b.aA.length<=24
 mX:∀w,w∈b.aA->j0 n np w/\w.aw.length=n
def fM.pR{n np:Nat}(l:n<=3)(m:np<=64){b:aL}(h:fM n np b):gF b:=⟨cX h.num (by decide),λe c=>by
 obtain⟨⟨j,a⟩,k⟩:=h.mX e c;exact⟨cX (n:=3) (by omega) (by decide),cX (n:=3) (by omega) (by decide),λx d=>cX (n:=64) (by have:=a x d;omega) (by decide)⟩⟩
def fM.nil{n np:Nat}:fM n np ⟨[]⟩:=⟨by simp,λc a=>by cases a⟩
def fM.aX{n np:Nat}{d:aM->aM->Prop}{C:aM->Prop}{m:ak}{tag:Int}{b k:aL}(h:fM n np b)(s:∀x a,d x a->x.an.length=np->a.an.length=np)(e:oG d C m tag b k):fM n np k:=by
 refine⟨h9 e.n.len h.num,λB y=>?_⟩
 obtain⟨l,w,i,x,a,E,u,o,rfl⟩:=e.n.from_ B y;obtain⟨⟨t,j⟩,A⟩:=h.mX l w;refine⟨⟨by show(l.aH.set i a).length=n;rw[dT];exact t,λD c=>?_⟩,A⟩
 rcases ev c with c |rfl
 .exact j D c
 .exact s x _ o (j x (fC u))
def fM.Np{n np:Nat}{m:ak}{i c t:Int}{b e:aL}(h:fM n np b)(d:AY m i c t n np b e):fM n np e:=by
 refine⟨d.num,λy s=>?_⟩
 obtain⟨E,k,C,B,D,u⟩:=d.ex;obtain⟨l,j,w,x⟩:=k.c y s;refine⟨l,?_⟩
 rw[x];rcases u j w with o |⟨a,A,rfl⟩
 .exact(h.mX j o).2
 .have:=(h.mX a A).2;show(gL i c a.aw).length=n
  unfold gL
  split
  .rw[dT,dT];exact this
  .exact this
def fM.renew{n np:Nat}{m:ak}{t:Int}{b d:aL}(h:fM n np b)(o:m.ai.length=np)(c:gG (λx a=>mP m x t a) b.aA d.aA):fM n np d:=by
 refine⟨by rw[c.1];exact h.num,λE w=>?_⟩
 obtain⟨e,u,j,C,l⟩:=c.back w;obtain⟨⟨B,D⟩,y⟩:=h.mX e u;refine⟨⟨by omega,λa s=>?_⟩,by rw[j];exact y⟩
 obtain⟨k,A,rfl⟩:=e5.1 s;have r:=l k _ _ (c6 (show k<e.aH.length by omega)) (c6 A);rw[r.new.1.1,o]
def fM.shut{n np:Nat}{m:ak}{w:List Int}{t:Int}{b d:aL}(h:fM n np b)(s:Ff m b w t n np d):fM n np d:=by
 obtain⟨B,C,A,c,a⟩:=s.ex;refine⟨h9 a.d (by rw[c.1];exact h.num),λx l=>?_⟩
 obtain⟨j,D,o,u⟩:=a.c x l;obtain⟨e,y,k,_⟩:=c.back o;exact⟨j,by rw[u,k];exact(h.mX e y).2⟩
def Ro{e:ak}{d:Nat}(f:e.ai.length=d){j:List Int}{g i:Int}:∀b a:aM,(a=b\/lG e b j g i a)->b.an.length=d->a.an.length=d:=λb a c h=>by
 rcases c with rfl |c
 .exact h
 .rw[c.new.1.1,f]
def T3{e:ak}{d:Nat}(f:e.ai.length=d){m:List Int}{h l k:Int}:∀b a:aM,(a=b\/∃i,og e b m h l k a i)->b.an.length=d->a.an.length=d:=λb a c j=>by
 rcases c with rfl |⟨g,c⟩
 .exact j
 .rw[c.new.1.1,f]
structure dW (n np:Nat) (p:aE):Prop where
 n3:1<=n/\n<=3
 kN:ny p.au
 fN:p.au.ao=p.ao
 gq:cP p.ao
 gk:p.ao.ai.length=np
 iz:p.au.aN.length=n
 jR:p.au.aQ.length<=3
 kj:p.au.bp.length=p.au.aQ.length
 uD:p.cI.length=p.ao.af.length
 kI:lO p.bR/\Sm p.bR.akL/\Sm p.bR.dg/\Sm p.bR.dG
 qx:Sm p.bM.bT
 kn:p.cq.length=p.au.aQ.length
 rX:∀r,r∈p.cq->r.aw.length<=1000
 uB:p.bZ.length<=60
 rW:∀r,r∈p.bZ->r.aw.length<=1000
 int:Sm p.cW.dl/\Sm p.cW.dr
 hZ:fM n np p.bw
 bne:p.bw.aA≠[]
 je:fM n np p.bq
 pq:p.bz.an=[]\/p.bz.an.length=np
 key:ff p.aa2
 jY:cj 0 ((p.ao.af.length:Int) -1) p.aa2.af
 iI:VA p.bS
 log:p.bB.length<=200
 uC:∀h,h∈p.bB->h.ll.length<=768
def dW.mq{n np:Nat}{p:aE}(h:dW n np p):np<=64:=by have:=h.gq.1;have:=h.gk;omega
def dW.lC{n np:Nat}{p:aE}(h:dW n np p):EW p:=by
 have d:=h.mq;have a:=h.gq;have j:=h.n3;refine⟨h.kN,cX a.1 (by decide),cX a.2.1 (by decide),cX (n:=128) (by have:=h.uD;have:=a.2.1;omega) (by decide),h.kI.2.1,h.kI.2.2.1,h.kI.2.2.2,h.qx,cX (n:=3) (by have:=h.kn;have:=h.jR;omega) (by decide),λr c=>cX (h.rX r c) (by decide),cX h.uB (by decide),λr c=>cX (h.rW r c) (by decide),h.int.1,h.int.2,h.hZ.pR j.2 d,h.je.pR j.2 d,?_,h.key.sm.1,h.key.sm.2,cX h.iI.1 (by decide),cX h.log (by decide),λx k=>cX (h.uC x k) (by decide)⟩
 rcases h.pq with e |e
 .rw[e];show(0:Nat)<=_;decide
 .exact cX (n:=64) (by omega) (by decide)
def U4{d e:Nat}{p:aE}(a:dW d e p):Ok (zj LC p) λb=>b=true->fw p.au:=by
 classical
 unfold zj;rw[xf _ a.kN.fit,aa]
 by_cases c:fw p.au
 rotate_left
 .rw[decide_eq_false c];exact ae (by intro a;cases a)
 rw[decide_eq_true c,cond_true,ko,aa,decide_eq_true a.gq,cond_true,aC (by have:=a.kn;omega),aC (by have:=a.uD;omega),aC (by have:=List.length_pos_iff.2 a.bne;omega),tA (h9 a.key.sm.1 (by decide)),aa];exact ae λ_=>c
end Go.X.T
