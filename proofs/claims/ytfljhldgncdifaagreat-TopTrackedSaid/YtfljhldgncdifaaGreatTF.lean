/- For TopTracked, part 6. -/
import Derived.Test.YtfljhldgncdifaaGreatTE
set_option linter.defProp false
set_option linter.unusedVariables false
set_option linter.unusedSimpArgs false
open Go.IntKind renaming wrap → c3, i64 → c4, u64 → hQ
open Decidable renaming decide → c5, byContradiction → dv, not_not → ej
open List renaming getElem?_eq_getElem → c6, getElem_mem → dd, getElem?_eq_some_iff → dt, length_set → dT, mem_singleton → e0, mem_append → e4, mem_iff_getElem → e5, length_replicate → e6, length_take → ea, replicate → ec, getD_eq_getElem?_getD → ee, zipWith → ef, length_append → eo, mem_or_eq_of_mem_set → ev, length_cons → ey, length_map → ez, getElem?_append_right → eE, length_zipWith → ga, drop_eq_getElem_cons → gb, getElem?_set_self → gv, eq_of_mem_replicate → gx, take_length → gy, length_drop → h5, getElem?_append_left → h6, pairwise_iff_getElem → h7, getElem?_set_ne → h9, getElem?_replicate → hq, append_assoc → hB, getElem?_set → hI, map_append → hK, length_nil → hL, take_of_length_le → hM, mem_iff_getElem? → hP, getElem_zipWith → hS, perm_singleton → hU, set_cons_zero → hX, drop_of_length_le → hY, getElem?_eq_none → ie, mem_map → j9, drop_zero → k0, set_append_right → k8, length_filter_le → kd, mem_cons → kl, map_cons → km, take_append_of_le_length → l0, mem_filter → l1, set_cons_succ → l2, getElem?_take → l3, pairwise_cons → l4, ext_getElem? → la, any_eq_false → m1, flatMap_cons → m2, any_eq_true → m3, nil_append → mx, mem_range → my, filter_eq_self → n1, take_set_of_le → n2, sum_cons → o1, filter_append → o3, take_add_one → o4, getElem_take → o6, getElem?_map → o9, getElem_map → oi, getElem_set → oo, getD → oq, cons_append → oS, append_nil → p4, foldl_cons → p7, take_take → q3, mem_set → qa
open Option renaming some → c7, none → j4, map_some → q2, bind → qq
open Int renaming toNat_natCast → dk, le_refl → eH, fdiv_eq_ediv_of_nonneg → ih, eq_ofNat_of_zero_le → j7, emod_add_mul_ediv → kc, zero_add → ma, mul_le_mul → n0, mul_assoc → ng, pow_succ → o7, mul_comm → o8, ediv_le_self → oj, ediv_nonneg → p6, natCast_pow → pc, lt_irrefl → q4, add_zero → q5, zero_mul → q6, le_trans → q7
open Sum renaming elim_inr → ei, elim_inl → ft, inl → m0
open Bool renaming not_true → fe, or_eq_false_iff → j2, and_eq_true → j3, false_eq_true → j5, not_false → k7, eq_iff_iff → mb
open Nat renaming le_refl → h8, le_trans → hz, sub_self → j8, mod_eq_of_lt → kh, zero_add → m5, add_sub_cancel → o2, zero_le → p0, add_zero → q8, min_self → qb
open List.Perm renaming cons_inv → hD, swap → k6
open BitVec renaming ofInt_natCast → j1, toNat_ofNat → j6, ofInt → m6
open Classical renaming propDecidable → m4
namespace Go.X.T
open Go Go.Aml
structure ny (x:aB):Prop where
 pl:Sm x.ao.ai
 rd:Sm x.ao.af
 pe:Sm x.aN
 tg:Sm x.aw
 rs:Sm x.aQ
 rp:∀r,r∈x.aQ->Sm r.ai
 nu:Sm x.cn
 lo:Sm x.cf
 mi:Sm x.bp
 mr:∀l,l∈x.bp->Sm l
def cX{b:Type}{a:List b}{n:Nat}(d:a.length<=n)(c:n<=1000000):Sm a:=hz d c
def fw.sm{x:aB}(h:fw x):ny x:=by
 obtain⟨⟨d,k,m⟩,o,D,C,B,u,A,E,j,y⟩:=h;refine⟨cX d.1 (by decide),cX d.2.1 (by decide),cX o.2 (by decide),cX (n:=12) (by omega) (by decide),cX k (by decide),λr s=>?_,cX (n:=32) (by omega) (by decide),cX (n:=32) (by omega) (by decide),cX (n:=32) (by omega) (by decide),λl t=>?_⟩
 .have:=(m r s).2.1.len (by omega);have:=d.1;exact cX (n:=64) (by omega) (by decide)
 .obtain⟨i,hi,rfl⟩:=e5.1 t;obtain⟨r,a,b,c,_,_,_,e,_,_,_,w,_⟩:=j i (by omega);rw[c6 hi] at e;injection e with e
  rw[e];exact cX (n:=12) (by omega) (by decide)
def ny.fit{x:aB}(h:ny x):∀r,r∈x.aQ->Fit r.ai:=λr a=>hz (h.rp r a) (by decide)
def jW{b:Type}{a done f:List b}{d:b}(e:Sm a)(c:a=done++d::f):done.length<=2000000:=by
 have g:a.length<=1000000:=e;have:=iy c;omega
def jZ{b:Type}{a:List b}(c:Sm a):a.length<=1000000:=c
def dL{b e:Type}{m:Option b}{a:b}{c:b->Option e}(d:m=c7 a):m.bind c=c a:=by subst d;rfl
def agL{x:aB}(b:ny x):yS LC x=c7 x:=by
 unfold yS;rw[mV b.pl,aa,nk b.rd,aa,Ep b.pe,aa,bV b.tg,aa];have h:=jm (f:=λd=>ue LC x (Oe d) (Nk d)) x.aQ (λa i=>u9 ({x with aQ:=a}:aB) i) (λa=>u3 ({x with aQ:=a}:aB)) (λa r j c=>by
  show ue LC x ({x with aQ:=a}:aB) (a.length:Int)=_
  unfold ue;have e:=jW b.rs c;rw[aC (iy c),jg c,aa,bV (b.rp r (ks c)),aa,dm (by decide) e,aa,aJ]) (by
  show ue LC x x (x.aQ.length:Int)=_
  unfold ue;rw[aG])
 refine(dL h).trans ?_
 dsimp only;rw[bV b.nu,aa,bV b.lo,aa];have g:=jm (f:=λd=>tG LC x (CU d) (Eg d)) x.bp (λa i=>u1 ({x with bp:=a}:aB) i) (λa=>u3 ({x with bp:=a}:aB)) (λa r j c=>by
  show tG LC x ({x with bp:=a}:aB) (a.length:Int)=_
  unfold tG;have e:=jW b.mi c;rw[aC (iy c),jg c,aa,bV (b.mr r (ks c)),aa,dm (by decide) e,aa,aJ]) (by
  show tG LC x x (x.bp.length:Int)=_
  unfold tG;rw[aG])
 exact(dL g).trans rfl
def Sy{a:aB}(c:ny a):yC LC a=c7 (B7 a):=by
 unfold yC;rw[mV c.pl,aa,nk c.rd,aa,Ep c.pe,aa,bV c.tg,aa];have j:=jm (f:=λe=>sK LC a (Pa a.aN e) (Oj e)) a.aQ (λb i=>Ga ({a with aQ:=b}:aB) i) (λb=>DY ({a with aQ:=b}:aB)) (λb r k d=>by
  show sK LC a ({a with aQ:=b}:aB) (b.length:Int)=_
  unfold sK;have g:=jW c.rs d;rw[aC (iy d),jg d,aa,bV (c.rp r (ks d)),aa,dm (by decide) g,aa,aJ]) (by
  show sK LC a a (a.aQ.length:Int)=_
  unfold sK;rw[aG])
 refine(dL j).trans ?_
 dsimp only;rw[bV c.nu,aa,bV c.lo,aa];have h:=jm (f:=λe=>vc LC a (LU a.aN e) (Tv e)) a.bp (λb i=>J4 ({a with bp:=b}:aB) i) (λb=>DY ({a with bp:=b}:aB)) (λb r k d=>by
  show vc LC a ({a with bp:=b}:aB) (b.length:Int)=_
  unfold vc;have g:=jW c.mi d;rw[aC (iy d),jg d,aa,bV (c.mr r (ks d)),aa,dm (by decide) g,aa,aJ]) (by
  show vc LC a a (a.bp.length:Int)=_
  unfold vc;rw[aG])
 exact(dL h).trans rfl
def ans{a:aB}(c:ny a):D6 LC a=c7 (MF a):=by
 unfold D6;rw[mV c.pl,aa,nk c.rd,aa,Ep c.pe,aa,bV c.tg,aa];have j:=jm (f:=λe=>tW LC a (MR a.ao.af a.aN e) (L9 e)) a.aQ (λb i=>KL ({a with aQ:=b}:aB) i) (λb=>CD ({a with aQ:=b}:aB)) (λb r k d=>by
  show tW LC a ({a with aQ:=b}:aB) (b.length:Int)=_
  unfold tW;have g:=jW c.rs d;rw[aC (iy d),jg d,aa,bV (c.rp r (ks d)),aa,dm (by decide) g,aa,aJ]) (by
  show tW LC a a (a.aQ.length:Int)=_
  unfold tW;rw[aG])
 refine(dL j).trans ?_
 dsimp only;rw[bV c.nu,aa,bV c.lo,aa];have h:=jm (f:=λe=>va LC a (R4 a.ao.af a.aN e) (Lw e)) a.bp (λb i=>IC ({a with bp:=b}:aB) i) (λb=>CD ({a with bp:=b}:aB)) (λb r k d=>by
  show va LC a ({a with bp:=b}:aB) (b.length:Int)=_
  unfold va;have g:=jW c.mi d;rw[aC (iy d),jg d,aa,bV (c.mr r (ks d)),aa,dm (by decide) g,aa,aJ]) (by
  show va LC a a (a.bp.length:Int)=_
  unfold va;rw[aG])
 exact(dL h).trans rfl
def oc{a:aB}(c:ny a){k:Type}(g:List bP->List aZ->Int->List bC->List Int->List aS->List Int->List Int->Option k):
 FD LC a g=g a.ao.ai a.ao.af a.aa0 a.aN a.aw a.aQ a.cn a.cf:=by
 unfold FD;rw[mV c.pl,aa,nk c.rd,aa,Ep c.pe,aa,bV c.tg,aa];have j:=jm (f:=λb=>DC LC a b.1 b.2.1 b.2.2.1 b.2.2.2.1 b.2.2.2.2.1 b.2.2.2.2.2.1 b.2.2.2.2.2.2.1 b.2.2.2.2.2.2.2.1 b.2.2.2.2.2.2.2.2) a.aQ (λe i=>(a.ao.ai,a.ao.af,a.aa0,a.aN,a.cn,a.cf,a.bp,e,i)) (λe=>(a.ao.ai,a.ao.af,a.aa0,a.aN,e,a.cn,a.cf,a.bp)) (λe r l d=>by
  dsimp only;unfold DC;have h:=jW c.rs d;rw[aC (iy d),jg d,aa,bV (c.rp r (ks d)),aa,dm (by decide) h,aa,aJ]) (by
  dsimp only;unfold DC;rw[aG])
 refine(dL j).trans ?_
 dsimp only;rw[bV c.nu,aa,bV c.lo,aa]
def other(a:ak)(i p:Int):Int:=if 0<=i then(match a.af[i.toNat]? with |some r=>if p=r.an then r.To else if p=r.To then r.an else -1 |none=>-1) else -1
def ajF(a:ak)(i p:Int):CX LC a i p=c7 (other a i p):=by
 unfold CX other;rw[ew rfl,aa]
 by_cases d:i<0\/(a.af.length:Int)<=i
 .rw[aC d]
  by_cases h0:0<=i
  .rw[if_pos h0,ie (by omega)]
  .rw[if_neg h0]
 .have e:i.toNat<a.af.length:=by omega
  rw[aG d,qC (by omega) (by omega),aa,if_pos (by omega),c6 e];dsimp only
  by_cases b:p=a.af[i.toNat].an
  .rw[aC b,if_pos b]
  .rw[aG b,if_neg b]
   by_cases c:p=a.af[i.toNat].To
   .rw[aC c,if_pos c]
   .rw[aG c,if_neg c]
def NJ{b:Type}{f:List b×Int->Option ((List b×Int)⊕List b)}(g:b->b)(a:List b)
 (l:∀(i:Nat) (aK:List b) (d:b),i<a.length->aK.length=a.length->aK[i]?=c7 d->a[i]?=c7 d->f (aK,(i:Int))=c7 (.inl (aK.set i (g d),(i:Int)+1)))
 (h:∀aK:List b,aK.length=a.length->f (aK,(a.length:Int))=c7 (.inr aK)):bO f (a,0)=c7 (a.map g):=by
 have:=nV (f:=f) a.length (λi=>((a.take i).map g++a.drop i,(i:Int))) (a.map g) (λi c=>?_) (by
  have:=h ((a.take a.length).map g++a.drop a.length) (by simp);rw[this];simp)
 .simpa using this
 .have e:((a.take i).map g).length=i:=by rw[ez,ea];omega
  have j:((a.take i).map g++a.drop i)[i]?=c7 a[i]:=by
   rw[eE (by omega),e,j8,gb c];rfl
  rw[l i _ a[i] c (by rw[eo,e,h5];omega) j (c6 c)];have k:((a.take i).map g++a.drop i).set i (g a[i])=(a.take (i+1)).map g++a.drop (i+1):=by
   rw[k8 _ _ (by omega),e,j8,gb c,hX, <-List.take_append_getElem c,hK,hB]
   rfl
  rw[k]
  rfl
def uf(c:ak)(b:Int)(a:bC):bC:=if a.akw<0 then a else if a.ami -b<=0 then⟨other c a.akw a.abG,-1,0⟩ else⟨a.abG,a.akw,a.ami -b⟩
def x7(a:aB)(b:Int):aB:={a with aa0:=a.aa0+b,aN:=a.aN.map (uf a.ao b)}
def ou{b:Type}{a:List b}{i:Nat}{e:b}(d:a[i]?=c7 e):a.set i e=a:=by
 apply la
 intro f;rw[hI]
 by_cases c:i=f
 .subst c;have:=(dt.1 d).1;rw[if_pos rfl,if_pos this,d]
 .rw[if_neg c]
def RE{a:aB}(b:Int)(s:∀r,r∈a.aQ->Fit r.ai):Ok (qp LC a b) λr=>(r.2≠0/\r.1=a)\/(r.2=0/\fw a/\0<=b/\a.aa0+b<=2147483648/\r.1=x7 a b):=by
 unfold qp;rw[xf a s,aa,de]
 by_cases c:fw a
 rotate_left
 .rw[aG c];exact ae (.inl ⟨by simp,rfl⟩)
 rw[aC c,cF,aa,de];have v:=c.2.2.2.2.1;refine aV (λk=>?_) (λk=>ae (.inl ⟨by simp,rfl⟩))
 rw[aJ (n:=a.aa0+b)];refine aV (λl=>ae (.inl ⟨by simp,rfl⟩)) (λl=>?_)
 rw[Sy c.sm,aa];have o:bO (λe=>vz LC (Bi (B7 a)) b a e.1 e.2) ((Bi (B7 a)).aN,0)=c7 (a.aN.map (uf a.ao b)):=by
  refine NJ (f:=λe=>vz LC a b a e.1 e.2) (uf a.ao b) a.aN (λi aK d u q j m=>?_) (λaK q=>?_)
  .dsimp only;unfold vz;have w:=c.2.1;rw[aC,bn,j,aa,dk,j,aa,aJ (n:=(i:Int)+1)];have p:=c.2.2.2.2.2.2.2.2.2 d (fC m);have t:0<=d.ami/\d.ami<=2147483648:=by
    have:=p.2
    split at this <;> omega
   rw[aJ (n:=d.ami -b)];unfold uf
   by_cases g:d.akw<0
   .rw[aC g,if_pos g,aa,ou j]
   .rw[aG g,if_neg g]
    by_cases h:d.ami -b<=0
    .rw[aC h,if_pos h,ajF,aa,aa,aa,aa,aa]
    .rw[aG h,if_neg h,aa,aa,aa,aa]
  .dsimp only;unfold vz;rw[aG]
 dsimp only;refine c8 o ?_
 refine ae (.inr ⟨rfl,c,k.1,by omega,?_⟩)
 show({a with aa0:=c3 c4 (a.aa0+b),aN:=_}:aB)=x7 a b
 rw[aJ]
 rfl
def WV{a:aB}(f:fw a):x7 a 0=a:=by
 unfold x7;have e:a.aN.map (uf a.ao 0)=a.aN:=by
  conv=>rhs;rw[<-List.map_id a.aN]
  refine List.map_congr_left λb d=>?_
  unfold uf;have g:=(f.2.2.2.2.2.2.2.2.2 b d).2
  by_cases c:b.akw<0
  .rw[if_pos c];rfl
  .rw[if_neg c];rw[if_neg (by omega)] at g;rw[if_neg (by omega),Int.sub_zero];rfl
 rw[e,q5]
def HQ{b:aB}(c:∀r,r∈b.aQ->Fit r.ai):Ok (qp LC b 0) λr=>r.1=b:=by
 refine WI (RE 0 c) λr a=>?_
 rcases a with a |⟨_,a,_,_,d⟩
 .exact a.2
 .rw[d,WV a]
def LZ{c:aB}(a:List Int)(k:∀r,r∈c.aQ->Fit r.ai)(p:a.length<=100):Ok (wv LC c a) λg=>(g=0->fw c/\∀i,i∈a->0<=i/\i<(c.aN.length:Int)):=by
 unfold wv;rw[xf c k,aa,de]
 by_cases e:fw c
 rotate_left
 .rw[aG e];exact ae λb=>absurd b (by simp)
 rw[aC e];have o:=e.2.1;have g:bO (λf=>wC LC a c f) 0=c7 (if ∀i,i<a.length->(λi:Nat=>c5 (¬(0<=a.getD i 0/\a.getD i 0<=(c.aN.length:Int) -1))) i=false then .inr () else .inl ()):=by
  refine oD _ _ () (λi d=>?_) ?_
  .unfold wC;rw[aC,uu d,aa,aJ (n:=(c.aN.length:Int) -1),cF,aa,aJ]
   by_cases b:0<=a.getD i 0/\a.getD i 0<=(c.aN.length:Int) -1
   .rw[decide_eq_true b,decide_eq_false (λh=>h b)];rfl
   .rw[decide_eq_false b,decide_eq_true b];rfl
  .unfold wC;rw[aG]
 rw[show LC.loop (λf=>wC LC a c f) 0=_ from g,aa]
 by_cases b:∀i,i<a.length->0<=a.getD i 0/\a.getD i 0<=(c.aN.length:Int) -1
 .rw[if_pos (λi d=>decide_eq_false (λh=>h (b i d)))];refine ae λ_=>⟨e,λm l=>?_⟩
  obtain⟨i,d,rfl⟩:=e5.1 l;have:=b i d;rw[pu (c6 d)] at this;omega
 .rw[if_neg (λj=>b λi d=>by have:=of_decide_eq_false (j i d);exact dv this)];exact ae λb=>absurd b (by simp)
def set_set{a:Type}(b:List a)(i:Nat)(d c:a):(b.set i d).set i c=b.set i c:=List.set_set _
def ahi{b:aB}(i r e:Int)(t:∀r,r∈b.aQ->Fit r.ai):Ok (B1 LC b i r e) λq=>(q.2≠0/\q.1=b)\/
 (q.2=0/\fw b/\0<=i/\(0<=e/\e<=3600)/\∃a,b.aN[i.toNat]?=c7 a/\a.akw<0/\0<=mQ b.ao r a.abG/\q.1={b with aN:=b.aN.set i.toNat ⟨a.abG,r,mQ b.ao r a.abG+e⟩}):=by
 unfold B1;refine aD (LZ [i] t (by simp)) λz s=>?_
 refine aV (λc=>ae (.inl ⟨c,rfl⟩)) (λc=>?_)
 obtain⟨h,f⟩:=s (ej.1 c);have f:=f i (by simp);have g:b.aN[i.toNat]?=c7 (b.aN[i.toNat]'(by omega)):=c6 (by omega);generalize b.aN[i.toNat]'(by omega)=a at g;have k:∀l:List bC,l[i.toNat]?=c7 a->aj l i=c7 a:=λl o=>by
  unfold aj;rw[if_pos f.1];exact o
 have v:=h.1.1;have:=v.2.1;rw[k _ g,aa,Tt _ _ _ (by omega),aa];refine aV (λc=>ae (.inl ⟨by simp,rfl⟩)) (λy=>?_)
 refine aV (λc=>ae (.inl ⟨by simp,rfl⟩)) (λw=>?_)
 rw[cF,aa,de];refine aV (λn=>?_) (λc=>ae (.inl ⟨by simp,rfl⟩))
 rw[Sy h.sm,aa];have p:i.toNat<b.aN.length:=by omega
 show Ok ((aj b.aN i).bind _) _
 rw[k _ g,aa];show Ok ((b.aN[i.toNat]?).bind _) _
 rw[g,aa];have j:(b.aN.set i.toNat (bC.mk a.abG r a.ami))[i.toNat]?=c7 (bC.mk a.abG r a.ami):=gv p;have m:aj (b.aN.set i.toNat (bC.mk a.abG r a.ami)) i=c7 (bC.mk a.abG r a.ami):=by unfold aj;rw[if_pos f.1];exact j
 show Ok ((aj (b.aN.set i.toNat (bC.mk a.abG r a.ami)) i).bind _) _
 rw[m,aa];show Ok (((b.aN.set i.toNat (bC.mk a.abG r a.ami))[i.toNat]?).bind _) _
 rw[j,aa];refine ae (.inr ⟨rfl,h,f.1,n,a,rfl,by omega,by omega,?_⟩)
 show({b with aN:=(b.aN.set i.toNat (bC.mk a.abG r a.ami)).set i.toNat (bC.mk a.abG r (c3 c4 (mQ b.ao r a.abG+e)))}:aB)=_
 have x:mQ b.ao r a.abG<=1000099:=by
  unfold mQ;have A:=rF b.ao r false (u:=6) (d:=9) (l:=12) (by decide);have B:=rF b.ao r true (u:=6) (d:=9) (l:=12) (by decide)
  split
  .split
   .split
    .omega
    .split <;> omega
   .omega
  .omega
 rw[set_set,aJ]
def cY(a:ak)(i:Int):ak:=⟨a.ai,match a.af[i.toNat]? with |some r=>a.af.set i.toNat {r with eN:=true} |none=>a.af⟩
def n8(i:Int)(a:bC):bC:=if a.akw=i then⟨a.abG,-1,0⟩ else a
def Uf{x:aB}(i:Int)(k:∀r,r∈x.aQ->Fit r.ai):Ok (wO LC x i) λq=>(q.2≠0/\q.1=x)\/
 (q.2=0/\fw x/\0<=i/\(∃r,x.ao.af[i.toNat]?=c7 r/\r.eN=false)/\q.1={x with ao:=cY x.ao i,aN:=x.aN.map (n8 i)}):=by
 unfold wO;rw[xf x k,aa,de]
 by_cases a:fw x
 rotate_left
 .rw[aG a];exact ae (.inl ⟨by simp,rfl⟩)
 rw[aC a];have t:=a.1.1.2.1;rw[aJ (n:=(x.ao.af.length:Int) -1),cF,aa,de]
 by_cases c:0<=i/\i<=(x.ao.af.length:Int) -1
 rotate_left
 .rw[aG c,aa];exact ae (.inl ⟨by simp,rfl⟩)
 have e:x.ao.af[i.toNat]?=c7 (x.ao.af[i.toNat]'(by omega)):=c6 (by omega);generalize x.ao.af[i.toNat]'(by omega)=r at e;have g:aj x.ao.af i=c7 r:=by unfold aj;rw[if_pos c.1];exact e
 rw[aC c,g,aa,aa];cases j:r.eN with
 |true=>exact ae (.inl ⟨by simp,rfl⟩)
 |false=>
  simp only[cond_false];rw[ans a.sm,aa];show Ok ((aj x.ao.af i).bind _) _
  rw[g,aa];show Ok ((x.ao.af[i.toNat]?).bind _) _
  rw[e,aa];have l:bO (λb=>vt LC x i b.1 b.2) (x.aN,0)=c7 (x.aN.map (n8 i)):=by
   refine NJ (n8 i) x.aN (λo aK h p m f u=>?_) (λaK m=>?_)
   .dsimp only;unfold vt;have s:=a.2.1;rw[aC,bn,f,aa,dk,f,aa,aa,aa,aJ (n:=(o:Int)+1)];unfold n8
    by_cases d:h.akw=i
    .rw[aC d,if_pos d,aa]
    .rw[aG d,if_neg d,aa,ou f]
   .dsimp only;unfold vt;rw[aG]
  show Ok ((bO (λb=>vt LC x i b.1 b.2) (x.aN,0)).bind _) _
  rw[l,aa];refine ae (.inr ⟨rfl,a,c.1,⟨r,rfl,j⟩,?_⟩)
  unfold cY;rw[e]
  rfl
def gL{c:Type}(d b:Int)(a:List c):List c:=match a[d.toNat]?,a[b.toNat]? with |some f,c7 e=>(a.set d.toNat e).set b.toNat f |_,_=>a
def Mm{c b:Int}{n:Type}{a:List Int}{g:List Int->Option n}(p:0<=c/\c<(a.length:Int))(i:0<=b/\b<(a.length:Int)):swp c b a g=g (gL c b a):=by
 have f:a[c.toNat]?=c7 (a[c.toNat]'(by omega)):=c6 (by omega);have e:a[b.toNat]?=c7 (a[b.toNat]'(by omega)):=c6 (by omega);unfold swp gL;generalize a[c.toNat]'(by omega)=m at f;generalize a[b.toNat]'(by omega)=d at e;have k:aj a c=c7 m:=by unfold aj;rw[if_pos p.1];exact f
 have o:aj a b=c7 d:=by unfold aj;rw[if_pos i.1];exact e
 have j:b.toNat<(a.set c.toNat d).length:=by rw[dT];omega
 have h:(a.set c.toNat d)[b.toNat]?=c7 ((a.set c.toNat d)[b.toNat]):=c6 j;have l:aj (a.set c.toNat d) b=c7 ((a.set c.toNat d)[b.toNat]):=by unfold aj;rw[if_pos i.1];exact h
 rw[o,aa,e,aa,k,aa,f,aa,aa,aa,l,aa,h,aa]
def ZX{x:aB}(i a:Int)(M:∀r,r∈x.aQ->Fit r.ai)(E:x.bp.length<=3):Ok (oX LC x i a) λq=>(q.2≠0/\q.1=x)\/
 (q.2=0/\fw x/\(0<=i/\i<(x.aN.length:Int))/\(0<=a/\a<(x.aN.length:Int))/\i≠a/\(∃h b,x.aN[i.toNat]?=c7 h/\x.aN[a.toNat]?=c7 b/\h.abG=b.abG)/\q.1={x with aw:=gL i a x.aw,bp:=x.bp.map (gL i a)}):=by
 unfold oX;refine aD (LZ [i,a] M (by simp)) λJ A=>?_
 refine aV (λn=>ae (.inl ⟨n,rfl⟩)) (λn=>?_)
 obtain⟨o,F⟩:=A (ej.1 n);have t:=F i (by simp);have v:=F a (by simp);refine aV (λn=>ae (.inl ⟨by simp,rfl⟩)) (λK=>?_)
 have z:x.aN[i.toNat]?=c7 (x.aN[i.toNat]'(by omega)):=c6 (by omega);have w:x.aN[a.toNat]?=c7 (x.aN[a.toNat]'(by omega)):=c6 (by omega);generalize x.aN[i.toNat]'(by omega)=h at z;generalize x.aN[a.toNat]'(by omega)=b at w;have P:aj x.aN i=c7 h:=by unfold aj;rw[if_pos t.1];exact z
 have L:aj x.aN a=c7 b:=by unfold aj;rw[if_pos v.1];exact w
 rw[P,aa,L,aa];refine aV (λn=>ae (.inl ⟨by simp,rfl⟩)) (λN=>?_)
 have I:=ej.1 N;have G:=o.2.2.1;have D:∀c,c∈x.bp->c.length=x.aN.length:=λc u=>by
  obtain⟨k,H,rfl⟩:=e5.1 u;obtain⟨_,_,_,J,_,_,_,s,_,_,_,A,_⟩:=o.2.2.2.2.2.2.2.2.1 k (by have:=o.2.2.2.2.2.2.2.1;omega);rw[c6 H] at s;injection s with s
  rw[s];exact A
 have l:=o.sm;have j:∀B:aB,B={x with aw:=gL i a x.aw,bp:=x.bp.map (gL i a)}->Ok (c7 (B,(0:Int))) λq=>(q.2≠0/\q.1=x)\/(q.2=0/\fw x/\(0<=i/\i<(x.aN.length:Int))/\(0<=a/\a<(x.aN.length:Int))/\i≠a/\(∃h b,x.aN[i.toNat]?=c7 h/\x.aN[a.toNat]?=c7 b/\h.abG=b.abG)/\q.1={x with aw:=gL i a x.aw,bp:=x.bp.map (gL i a)}):=
  λB O=>ae (.inr ⟨rfl,o,t,v,K,⟨h,b,z,w,I⟩,O⟩)
 have e:∀{y:Type} {k:List Int->Option y} (c:List Int),c∈x.bp->swp i a c k=k (gL i a c):=λc u=>Mm (by rw[D c u];exact t) (by rw[D c u];exact v)
 have p:∀{y:Type} {k:List Int->Option y},swp i a x.aw k=k (gL i a x.aw):=Mm (by rw[G];exact t) (by rw[G];exact v);have f:=l.mr
 match d:x.bp with
 |[]=>
  rw[d] at j;dsimp only;unfold we;rw[d];dsimp only;rw[oc l,aa];dsimp only;rw[p];exact j _ rfl
 |[g]=>
  rw[d] at j e f;dsimp only;unfold uR;rw[d];dsimp only;rw[oc l,bV (f g (by simp)),aa,aa];dsimp only;rw[p,e g (by simp)];exact j _ rfl
 |[g,m]=>
  rw[d] at j e f;dsimp only;unfold pO;rw[d];dsimp only;rw[oc l,bV (f g (by simp)),aa,bV (f m (by simp)),aa,aa];dsimp only;rw[p,e g (by simp),e m (by simp)];exact j _ rfl
 |[g,m,C]=>
  rw[d] at j e f;dsimp only;unfold nM;rw[d];dsimp only;rw[oc l,bV (f g (by simp)),aa,bV (f m (by simp)),aa,bV (f C (by simp)),aa,aa];dsimp only;rw[p,e g (by simp),e m (by simp),e C (by simp)];exact j _ rfl
 |_::_::_::_::_=>rw[d] at E;simp at E
def Bb{l:List Int}{x:Int}(c:Fit l):to LC l x=c7 (gg (λa=>c5 (x=a)) l):=by
 unfold to;exact fF (l:=l) (P:=λa=>c7 (c5 (x=a))) (p:=λa=>c5 (x=a)) (f:=λb=>Nf LC l x b) c (λ_ _=>rfl) (λb=>rfl)
def contains_eq{c:List Int}{b:Int}(d:Fit c):im LC c b=c7 (c5 (b∈c)):=by
 unfold im;rw[Bb d,aa,gm]
 congr 1
 rw[mb,m3,decide_eq_true_iff]
 constructor
 .rintro⟨f,e,a⟩;rw[of_decide_eq_true a];exact e
 .exact λa=>⟨b,a,decide_eq_true rfl⟩
def xj(e:ak)(a:List aS)(b d:List Int)(c:Int):aB:=⟨e,c,b.map λp=>⟨p,-1,0⟩,d,a,a.map λ_=>-1,a.map λ_=>-1,a.map λ_=>ec b.length 0⟩
def start_eq{d:ak}{b:List aS}{a e:List Int}{g:Int}(m:uG d b)(H:e.length=a.length)(I:1<=a.length/\a.length<=12)(G:∀p,p∈a->0<=p/\p<(d.ai.length:Int))(F:lz e)(D:0<=g/\g<=2147483648):
 Ef LC d b a e g=c7 (xj d b a e g,0):=by
 have q:=m.1;have o:=m.2.1;have v:∀r,r∈b->Sm r.ai:=λr s=>by
  have:=(m.2.2 r s).2.1.len (by omega);have:=q.1;exact cX (n:=64) (by omega) (by decide)
 unfold Ef;rw[Pm _ _ (λr s=>hz (v r s) (by decide)),aa,cF,aa,lA,ew rfl,fh rfl,aa,aG (by
  rintro(j |j |j)
  .exact j m
  .omega
  .omega)]
 have C:Cg LC a d=c7 (a.any λp=>!c5 (0<=p/\p<=(d.ai.length:Int) -1)):=by
  unfold Cg KC;have:=fF (l:=a) (P:=λu=>Ci LC u d) (p:=λp=>!c5 (0<=p/\p<=(d.ai.length:Int) -1)) (f:=λh=>KM LC a d h) (by omega) (λu J=>by
   unfold Ci;have:=q.1;rw[aJ,cF,aa]) (λh=>rfl)
  rw[show(LC.loop (λh=>KM LC a d h) 0).bind _=_ from this,aa,gm]
 rw[C,aa,HA,aG (λj=>j λp E=>by have:=G p E;omega),KN (cX (n:=12) (by omega) (by decide)),aa,decide_eq_true F,cF,aa,decide_eq_true D];simp only[fe,cond_false];have A:=jm (f:=λh=>tX LC a (L6 h) (T0 h)) a (λc i=>u8 (aB.mk d g (c.map λp=>⟨p,-1,0⟩) e b [] [] []) i) (λc=>u3 (aB.mk d g (c.map λp=>⟨p,-1,0⟩) e b [] [] [])) (λc r y j=>by
  show tX LC a (aB.mk d g (c.map λp=>⟨p,-1,0⟩) e b [] [] []) (c.length:Int)=_
  unfold tX;have k:=iy j;rw[aC k,jg j,aa,dm (by decide) (by rw[ez];omega),aa,aJ,hK]
  rfl) (by
  show tX LC a (aB.mk d g (a.map λp=>⟨p,-1,0⟩) e b [] [] []) (a.length:Int)=_
  unfold tX;rw[aG])
 refine(dL A).trans ?_
 have B:=jm (f:=λh=>sH LC b a (CU h) (Eg h)) b (λc i=>u1 (aB.mk d g (a.map λp=>⟨p,-1,0⟩) e b (c.map λ_=>-1) (c.map λ_=>-1) (c.map λ_=>ec a.length 0)) i) (λc=>u3 (aB.mk d g (a.map λp=>⟨p,-1,0⟩) e b (c.map λ_=>-1) (c.map λ_=>-1) (c.map λ_=>ec a.length 0))) (λc r y j=>by
  show sH LC b a (aB.mk d g (a.map λp=>⟨p,-1,0⟩) e b (c.map λ_=>-1) (c.map λ_=>-1) (c.map λ_=>ec a.length 0)) (c.length:Int)=_
  unfold sH;have k:=iy j;have t:c.length<=2000000:=by omega
  rw[aC k];dsimp only;rw[dm (by decide) (by rw[ez];exact t),nS (by omega) (by omega)];simp only[aa];rw[dm (by decide) (by rw[ez];exact t),aa,aJ,hK,hK]
  rfl) (by
  show sH LC b a (aB.mk d g (a.map λp=>⟨p,-1,0⟩) e b (b.map λ_=>-1) (b.map λ_=>-1) (b.map λ_=>ec a.length 0)) (b.length:Int)=_
  unfold sH;rw[aG])
 refine(congrArg (λz=>qq z _) (dL B)).trans ?_
 show((yS LC (xj d b a e g)).bind _)=_
 rw[agL (x:=xj d b a e g) ⟨cX q.1 (by decide),cX q.2.1 (by decide),cX (n:=12) (by show(a.map _).length<=12;rw[ez];omega) (by decide),cX (n:=12) (by show e.length<=12;omega) (by decide),cX o (by decide),v,cX (n:=32) (by show(b.map _).length<=32;rw[ez];exact o) (by decide),cX (n:=32) (by show(b.map _).length<=32;rw[ez];exact o) (by decide),
  cX (n:=32) (by show(b.map _).length<=32;rw[ez];exact o) (by decide),λl k=>by
   have w:l∈b.map λ_=>ec a.length (0:Int):=k
   obtain⟨r,_,rfl⟩:=j9.1 w;exact cX (n:=12) (by rw[e6];omega) (by decide)⟩]
 rfl
structure Seen (x:aB) (rd:aS) (row row':List Int) (yp:List Int):Prop where
 len:row'.length=row.length
 tl:yp.length<=x.aN.length
 Hg:∀(i:Nat) (w:bC) (t:Int),x.aN[i]?=c7 w->x.aw[i]?=c7 t->∃v v',row[i]?=c7 v/\row'[i]?=c7 v'/\((v'=0/\(w.abG∈rd.ai->t∈yp))\/(v'=v+1/\v'<=rd.dY))
 tag:∀t,t∈yp->∃(i:Nat) (w:bC),x.aN[i]?=c7 w/\x.aw[i]?=c7 t/\w.abG∈rd.ai
structure Oq (x:aB) (rd:aS) (n:Nat) (row row':List Int) (yp:List Int):Prop where
 len:row'.length=row.length
 tl:yp.length<=n
 bG:∀i,n<=i->row'[i]?=row[i]?
 Hg:∀(i:Nat) (w:bC) (t:Int),i<n->x.aN[i]?=c7 w->x.aw[i]?=c7 t->∃v v',row[i]?=c7 v/\row'[i]?=c7 v'/\((v'=0/\(w.abG∈rd.ai->t∈yp))\/(v'=v+1/\v'<=rd.dY))
 tag:∀t,t∈yp->∃(i:Nat) (w:bC),x.aN[i]?=c7 w/\x.aw[i]?=c7 t/\w.abG∈rd.ai
abbrev LkS:Type:=List Int×Int×Int×Int×List Int×Int
def ZP{c:aB}(F:fw c){j:aS}(H:Fit j.ai)(B:Int){row:List Int}(ab:row.length=c.aN.length)(N:∀v,v∈row->0<=v/\v<=10)(C b x:Int):
 Ok (bO (λf:LkS=>EV LC c B j f.1 f.2.1 f.2.2.1 f.2.2.2.1 f.2.2.2.2.1 f.2.2.2.2.2) (row,C,b,x,([]:List Int),0)) λk=>match k with
  | .inl k=>k=(c.ao.ai,c.ao.af,c.aa0,c.aN,c.aw,c.aQ,c.cn,c.cf,c.bp,0,0,0,([]:List Int),43)
  | .inr k=>k.2.1=C/\k.2.2.1=b/\k.2.2.2.1=x/\Seen c j row k.1 k.2.2.2.2:=by
 have ac:=F.2.1;have ad:=F.2.2.1;refine di c.aN.length (λi f=>∃h g,f=(h,C,b,x,g,(i:Int))/\Oq c j i row h g) _ (λi f R y=>?_) (λf y=>?_) _ ⟨row,[],rfl,⟨rfl,by simp,λ_ _=>rfl,λi l o a=>by omega,λo a=>by cases a⟩⟩
 .obtain⟨h,g,rfl,d⟩:=y;have m:c.aN[i]?=c7 c.aN[i]:=c6 R;have q:c.aw[i]?=c7 (c.aw[i]'(by omega)):=c6 (by omega);have A:row[i]?=c7 (row[i]'(by omega)):=c6 (by omega);generalize c.aN[i]=l at m;generalize c.aw[i]'(by omega)=o at q;have Q:=N _ (dd (show i<row.length by omega));generalize row[i]'(by omega)=v at A Q;have D:h[i]?=c7 v:=(d.bG i (h8 _)).trans A;have G:i<h.length:=by rw[d.len];omega
  dsimp only;unfold EV;rw[aC,bn,m,aa,contains_eq H,aa,AD (by omega),aa,bn,D,aa];have next:∀(z:Int) (p:List Int),((z=0/\(l.abG∈j.ai->o∈p))\/(z=v+1/\z<=j.dY))->(∀e,e∈g->e∈p)->p.length<=g.length+1->(∀e,e∈p->e∈g\/(e=o/\l.abG∈j.ai))->Oq c j (i+1) row (h.set i z) p:=by
   intro z p I L Z K;refine⟨by rw[dT,d.len],by have:=d.tl;omega,λu W=>?_,λu U V W s r=>?_,λe T=>?_⟩
   .rw[h9 (by omega)];exact d.bG u (by omega)
   .by_cases E:u=i
    .subst E;rw[m] at s;rw[q] at r;injection s with s
     injection r with r
     subst s r;exact⟨v,z,A,gv G,I⟩
    .obtain⟨Y,J,S,M,t⟩:=d.Hg u U V (by omega) s r;refine⟨Y,J,S,by rw[h9 (λa=>E a.symm)];exact M,?_⟩
     rcases t with⟨t,X⟩ |t
     .exact .inl ⟨t,λa=>L _ (X a)⟩
     .exact .inr t
   .rcases K e T with a |⟨rfl,a⟩
    .exact d.tag e a
    .exact⟨i,l,m,q,a⟩
  have P:(bif c5 (l.abG∈j.ai) then c7 (c5 (bits .and .i64 (B.fdiv (2^ (min (i:Int).toNat IntKind.i64.bits))) 1=1)) else c7 false)=c7 (c5 (l.abG∈j.ai/\bits .and .i64 (B.fdiv (2^ (min (i:Int).toNat IntKind.i64.bits))) 1=1)):=fm rfl;rw[P,aa,dk,D,aJ (n:=(i:Int)+1)];simp only[aa];rw[aJ (n:=v+1)];refine aV (λO=>?_) (λO=>?_)
  .rw[gv G,aa];refine aV (λa=>ae rfl) (λa=>ae ⟨h.set i (v+1),g,rfl,next _ _ (.inr ⟨rfl,by omega⟩) (λ_ a=>a) (by omega) (λe a=>.inl a)⟩)
  .refine aV (λw=>?_) (λw=>ae ⟨h.set i 0,g,rfl,next _ _ (.inl ⟨rfl,λa=>absurd a w⟩) (λ_ a=>a) (by omega) (λe a=>.inl a)⟩)
   have:=d.tl;rw[bn,q,aa,dm (by decide) (by omega),aa];refine ae ⟨h.set i 0,g++[o],rfl,next _ _ (.inl ⟨rfl,λ_=>by simp⟩) (λe a=>by simp[a]) (by simp) (λe a=>?_)⟩
   rcases e4.1 a with a |a
   .exact .inl a
   .exact .inr ⟨by simpa using a,w⟩
 .obtain⟨h,g,rfl,d⟩:=y;dsimp only;unfold EV;rw[aG];exact ae ⟨rfl,rfl,rfl,d.len,d.tl,λi l o m q=>d.Hg i l o (dt.1 m).1 m q,d.tag⟩
structure cf (x:aB) (k:Nat) (off:Int) (rd:aS) (x':aB) (r:aT):Prop where
 ok:fw x
 eZ:x.aQ[k]?=c7 rd
 QX: -rd.cR<=off/\off<=rd.cR
 aqK:0<=x.aa0+off/\x.aa0+off<=2147483648
 ex:∃row row' yp a l,x.bp[k]?=c7 row/\x.cn[k]?=c7 a/\x.cf[k]?=c7 l/\Seen x rd row row' yp/\r.aj6=(a+(if 0<=l/\rd.dX<x.aa0 -l then 2 else 1)).tmod 65536/\r.agX=k/\r.aa0=x.aa0+off/\r.aw=dQ yp/\
  x'={x with cn:=x.cn.set k r.aj6,cf:=x.cf.set k x.aa0,bp:=x.bp.set k row'}
def ua{a:aB}(d:fw a){g:Nat}{s e:Int}{c:aS}(h:a.aQ[g]?=c7 c)(D: -c.cR<=e/\e<=c.cR)(y:0<=a.aa0+e/\a.aa0+e<=2147483648){row:List Int}(w:a.bp[g]?=c7 row)(u:List Int->List (List Int))(C:∀r,u r=a.bp.set g r):
 Ok (qw LC a (g:Int) s e c a.aw a.cn a.cf row u (a.ao.ai,a.ao.af,a.aa0,a.aN,a.aQ)) λq=>(q.2.2≠0/\q.1=a)\/(q.2.2=0/\cf a g e c q.1 q.2.1):=by
 have A:=(dt.1 h).1;obtain⟨_,x,b,M,j,m,o,i,K,N,_,J,F⟩:=d.2.2.2.2.2.2.2.2.1 g A;rw[h] at j;injection j with j
 subst j;rw[w] at i;injection i with i
 subst i;have O:=d.2.2.2.2.1;have z:=d.1.2.2 c (fC h);unfold qw;rw[bn,o,aa,aa,aJ (n:=a.aa0 -b)];have I:(bif c5 (0<=b) then c7 (c5 (c.dX<a.aa0 -b)) else c7 false)=c7 (c5 (0<=b/\c.dX<a.aa0 -b)):=fm rfl;rw[I,aa];have B:(bif c5 (0<=b/\c.dX<a.aa0 -b) then c7 (2:Int) else c7 1)=c7 (if 0<=b/\c.dX<a.aa0 -b then 2 else 1):=by
  by_cases k:0<=b/\c.dX<a.aa0 -b
  .rw[aC k,if_pos k]
  .rw[aG k,if_neg k]
 rw[B,aa,bn,m,aa];have L:(1:Int)<=(if 0<=b/\c.dX<a.aa0 -b then 2 else 1)/\(if 0<=b/\c.dX<a.aa0 -b then(2:Int) else 1)<=2:=by split <;> omega
 rw[aJ (n:=x+_),D7 (by omega),aa,aa,dk,m,aa,aa,o,aa,aJ (n:=a.aa0+e)];refine aD (ZP d (by have:=d.sm.rp c (fC h);exact hz this (by decide)) s J (λv G=>by have:=F v G;have:=z.2.2.2.1;omega) _ _ _) λf l=>?_
 cases f with
 |inl f=>
  dsimp only at l;subst l;exact ae (.inl ⟨by simp,rfl⟩)
 |inr f=>
  obtain⟨E,p,H,t⟩:=l;dsimp only[ei];have P:=d.2.1;have:=t.tl;rw[show rC f.2.2.2.2=rl LC f.2.2.2.2 from rfl,zF (cX (n:=12) (by omega) (by decide)),aa];refine ae (.inr ⟨rfl,d,h,D,y,row,f.1,f.2.2.2.2,x,b,w,m,o,t,p,E,H,rfl,?_⟩)
  rw[C,p]
def look_ok{x:aB}(f A h:Int)(H:∀r,r∈x.aQ->Fit r.ai)(z:x.bp.length<=3)(J:0<=f)(L:f<max 1 (x.aQ.length:Int))(t:x.bp.length=x.aQ.length):
 Ok (jO LC x f A h) λq=>(q.2.2≠0/\q.1=x)\/(q.2.2=0/\∃(n:Nat) (d:aS),f=(n:Int)/\cf x n h d q.1 q.2.1):=by
 have head:∀(u:aS->Option (aB×aT×Int)),(∀(n:Nat) (d:aS),f=(n:Int)->fw x->x.aQ[n]?=c7 d->(-d.cR<=h/\h<=d.cR)->(0<=x.aa0+h/\x.aa0+h<=2147483648)->Ok (u d) λq=>(q.2.2≠0/\q.1=x)\/(q.2.2=0/\cf x n h d q.1 q.2.1))->
  Ok (po LC x f A h u) λq=>(q.2.2≠0/\q.1=x)\/(q.2.2=0/\∃(n:Nat) (d:aS),f=(n:Int)/\cf x n h d q.1 q.2.1):=by
  intro u G;unfold po;rw[xf x H,aa,de];refine aV (λa=>?_) (λa=>ae (.inl ⟨by simp,rfl⟩))
  rw[aJ,cF,aa,de];refine aV (λF=>?_) (λa=>ae (.inl ⟨by simp,rfl⟩))
  have B:f.toNat<x.aQ.length:=by omega
  have g:x.aQ[f.toNat]?=c7 x.aQ[f.toNat]:=c6 B;have y:aj x.aQ f=c7 x.aQ[f.toNat]:=qC F.1 (by omega);have v:=a.1.2.2 _ (dd B);generalize x.aQ[f.toNat]=d at g y v;have N:=a.2.2.2.2.1;have K:=v.2.2.2.2;rw[y,aa,aJ (n:=0 -d.cR),cF,aa]
  by_cases w:0 -d.cR<=h/\h<=d.cR
  rotate_left
  .rw[decide_eq_false w];exact ae (.inl ⟨by simp,rfl⟩)
  rw[decide_eq_true w,aJ (n:=x.aa0+h),cF];simp only[aa,fe,cond_false,de];refine aV (λD=>?_) (λ_=>ae (.inl ⟨by simp,rfl⟩))
  refine WI (G f.toNat d (by omega) a g (by omega) D) λq o=>?_
  rcases o with o |⟨h0,o⟩
  .exact .inl o
  .exact .inr ⟨h0,f.toNat,d,by omega,o⟩
 have E:∀{I:Prop},x.aQ.length=0->∀(n:Nat) (d:aS),x.aQ[n]?=c7 d->I:=λM n d g=>by
  have:=(dt.1 g).1;omega
 unfold jO
 match c:x.bp with
 |[]=>
  dsimp only;have h0:x.aQ.length=0:=by rw[<-t,c];rfl
  rw[aC];exact head _ λn d _ _ g=>E h0 n d g
 |[k]=>
  dsimp only;have h0:x.aQ.length=1:=by rw[<-t,c];rfl
  rw[aC (show f=0 by omega)];refine head _ λn d j a g l b=>?_
  have i:n=0:=by omega
  subst i j;have e:=a.sm.mr;rw[c] at e;unfold uR;rw[c];dsimp only;rw[oc a.sm,bV (e k (by simp)),aa,aa];exact ua a g l b (row:=k) (by rw[c];rfl) (λr=>[r]) (λr=>by rw[c];rfl)
 |[k,m]=>
  dsimp only;have h0:x.aQ.length=2:=by rw[<-t,c];rfl
  by_cases p:f=0
  .rw[aC p];refine head _ λn d j a g l b=>?_
   have i:n=0:=by omega
   subst i j;have e:=a.sm.mr;rw[c] at e;unfold pO;rw[c];dsimp only;rw[oc a.sm,bV (e k (by simp)),aa,bV (e m (by simp)),aa,aa];exact ua a g l b (row:=k) (by rw[c];rfl) _ (λr=>by rw[c];rfl)
  .rw[aG p,aC (show f=1 by omega)];refine head _ λn d j a g l b=>?_
   have i:n=1:=by omega
   subst i j;have e:=a.sm.mr;rw[c] at e;unfold pO;rw[c];dsimp only;rw[oc a.sm,bV (e k (by simp)),aa,bV (e m (by simp)),aa,aa];exact ua a g l b (row:=m) (by rw[c];rfl) _ (λr=>by rw[c];rfl)
 |[k,m,s]=>
  dsimp only;have h0:x.aQ.length=3:=by rw[<-t,c];rfl
  by_cases p:f=0
  .rw[aC p];refine head _ λn d j a g l b=>?_
   have i:n=0:=by omega
   subst i j;have e:=a.sm.mr;rw[c] at e;unfold nM;rw[c];dsimp only;rw[oc a.sm,bV (e k (by simp)),aa,bV (e m (by simp)),aa,bV (e s (by simp)),aa,aa];exact ua a g l b (row:=k) (by rw[c];rfl) _ (λr=>by rw[c];rfl)
  .rw[aG p]
   by_cases C:f=1
   .rw[aC C];refine head _ λn d j a g l b=>?_
    have i:n=1:=by omega
    subst i j;have e:=a.sm.mr;rw[c] at e;unfold nM;rw[c];dsimp only;rw[oc a.sm,bV (e k (by simp)),aa,bV (e m (by simp)),aa,bV (e s (by simp)),aa,aa];exact ua a g l b (row:=m) (by rw[c];rfl) _ (λr=>by rw[c];rfl)
   .rw[aG C,aC (show f=2 by omega)];refine head _ λn d j a g l b=>?_
    have i:n=2:=by omega
    subst i j;have e:=a.sm.mr;rw[c] at e;unfold nM;rw[c];dsimp only;rw[oc a.sm,bV (e k (by simp)),aa,bV (e m (by simp)),aa,bV (e s (by simp)),aa,aa];exact ua a g l b (row:=s) (by rw[c];rfl) _ (λr=>by rw[c];rfl)
 |_::_::_::_::_=>rw[c] at z;simp at z
end Go.X.T
namespace Go.X.T
open Go Go.Aml Go.Top
def fn(a:List Int)(p:Int):Int:=a.getD p.toNat 0
def fD(a:Int):Prop:=(0<=a/\a<=2147483648)\/a=1099511627776
instance (a:Int):Decidable (fD a):=by unfold fD;infer_instance
def Q4{a:List Int}{p b:Int}(c:a[p.toNat]?=c7 b):fn a p=b:=pu c
def iD{l:List Int}{p:Int}(h0:0<=p)(a:p<(l.length:Int)):l[p.toNat]?=c7 (fn l p):=by
 rw[c6 (by omega),fn,pu (c6 (by omega))]
def gH{l:List Int}{p:Int}(h0:0<=p)(a:p<(l.length:Int)):aj l p=c7 (fn l p):=by
 unfold aj;rw[if_pos h0];exact iD h0 a
def oR{l:List Int}{p:Int}(h0:0<=p)(a:p<(l.length:Int)):fn l p∈l:=fC (iD h0 a)
def wy{l:List Int}{p q x:Int}(h0:0<=p)(c:p<(l.length:Int))(b:0<=q):fn (l.set p.toNat x) q=if q=p then x else fn l q:=by
 unfold fn;rw[ee,hI]
 by_cases a:q=p
 .subst a;rw[if_pos rfl,if_pos rfl,if_pos (by omega)];rfl
 .rw[if_neg a,if_neg (by omega),ee]
def rL(m:ak):vG:=λp q a=>∃(i:Nat) (r:aZ) (b:Bool),m.af[i]?=c7 r/\wT m (i:Int) b 6 9 12=a/\0<=a/\p=(if b then r.To else r.an)/\q=(if b then r.an else r.To)
def x8(S:Int->Bool)(a:List Int×Bool)(q b t:Int):List Int×Bool:=if max b t<=2147483648/\max b t<fn a.1 q/\S q=true then(a.1.set q.toNat (max b t),true) else a
def gn(m:ak)(S:Int->Bool)(t:Int)(i:Nat)(r:aZ)(b:Bool)(a:List Int×Bool):List Int×Bool:=
 if 0<=wT m (i:Int) b 6 9 12/\fn a.1 (if b then r.To else r.an)<1099511627776 then x8 S a (if b then r.an else r.To) (fn a.1 (if b then r.To else r.an)+wT m (i:Int) b 6 9 12) t else a
def e9(m:ak)(S:Int->Bool)(t:Int):Nat->Nat->List Int×Bool->List Int×Bool
 |0,_,a=>a
 |b+1,i,a=>e9 m S t b (i+1) (match m.af[i]? with |some r=>gn m S t i r true (gn m S t i r false a) |none=>a)
structure LI (m:ak) (S:Int->Bool) (t:Int) (g aK:List Int):Prop where
 len:aK.length=g.length
 le:∀p,0<=p->p<(g.length:Int)->fn aK p<=fn g p
 sh:∀x,x∈aK->fD x
 low:∀h:Int->Int,pG (rL m) t (λq=>S q=true) h->(∀p,0<=p->p<(g.length:Int)->h p<=fn g p)->∀p,0<=p->p<(g.length:Int)->h p<=fn aK p
def jJ:List Int->Int
 |[]=>0
 |b::a=>b+jJ a
def Gn:∀{l:List Int},(∀a,a∈l->fD a)->0<=jJ l
 |[],_=>eH _
 |a::l,b=>by
  have c:=b a (by simp);have f:=Gn (l:=l) λd e=>b d (by simp[e])
  unfold jJ;unfold fD at c;omega
def Mk:∀{b:List Int} {i:Nat} {d a:Int},b[i]?=c7 a->jJ (b.set i d)=jJ b -a+d
 |[],i,d,a,c=>by simp at c
 |e::b,0,d,a,c=>by
  have:e=a:=by simpa using c
  subst this;rw[hX];unfold jJ;omega
 |e::b,i+1,d,a,c=>by
  have f:b[i]?=c7 a:=by simpa using c
  rw[l2];unfold jJ;rw[Mk f];omega
section
variable {m:ak}{S:Int->Bool}{t:Int}{g:List Int}
def Cn(c:cP m){i:Nat}{r:aZ}(a:m.af[i]?=c7 r)(b:Bool):(0<=(if b then r.To else r.an)/\(if b then r.To else r.an)<(m.ai.length:Int))/\(0<=(if b then r.an else r.To)/\(if b then r.an else r.To)<(m.ai.length:Int)):=by
 have d:=(c.2.2.2 r (fC a)).1;cases b
 .simp only[j5,if_false];omega
 .simp only[if_true];omega
def om(N:cP m)(R:0<=t)(P:g.length=m.ai.length){i:Nat}{r:aZ}(E:m.af[i]?=c7 r)(b:Bool){a:List Int×Bool}(c:LI m S t g a.1):
 LI m S t g (gn m S t i r b a).1/\((gn m S t i r b a=a/\pG (λp q j=>p=(if b then r.To else r.an)/\q=(if b then r.an else r.To)/\j=wT m (i:Int) b 6 9 12/\0<=j) t (λq=>S q=true) (fn a.1))\/((gn m S t i r b a).2=true/\jJ (gn m S t i r b a).1<jJ a.1)):=by
 obtain⟨y,n⟩:=Cn N E b;have T:=rF m (i:Int) b (u:=6) (d:=9) (l:=12) (by decide);unfold gn x8;generalize J:(if b then r.To else r.an)=e at y⊢;generalize M:(if b then r.an else r.To)=s at n⊢;have K:=c.len
 by_cases k:0<=wT m (i:Int) b 6 9 12/\fn a.1 e<1099511627776
 .rw[if_pos k]
  by_cases h:max (fn a.1 e+wT m (i:Int) b 6 9 12) t<=2147483648/\max (fn a.1 e+wT m (i:Int) b 6 9 12) t<fn a.1 s/\S s=true
  .rw[if_pos h];have F:=λq H=>wy (l:=a.1) (p:=s) (q:=q) (x:=max (fn a.1 e+wT m (i:Int) b 6 9 12) t) n.1 (by omega) H
   have Q:=c.sh _ (oR (l:=a.1) y.1 (by omega));refine⟨⟨by rw[dT];exact K,λp f o=>?_,λx w=>?_,λI A G p f o=>?_⟩,.inr ⟨rfl,?_⟩⟩
   .rw[F p f];have:=c.le p f o
    split
    .rename_i v;subst v;omega
    .exact this
   .rcases ev w with w |rfl
    .exact c.sh x w
    .left;omega
   .rw[F p f];have C:=c.low I A G
    split
    .rename_i v;subst v;have O:=C e y.1 (by omega);have:=A e p _ ⟨i,r,b,E,rfl,k.1,J.symm,M.symm⟩ h.2.2 (by unfold T5;omega) (by unfold SM;omega);omega
    .exact C p f o
   .rw[Mk (iD n.1 (by omega))];omega
  .rw[if_neg h];refine⟨c,.inl ⟨rfl,?_⟩⟩
   rintro p q j ⟨rfl,rfl,rfl,h0⟩ z B D;refine Int.not_lt.1 λL=>h ⟨D,L,z⟩
 .rw[if_neg k];refine⟨c,.inl ⟨rfl,?_⟩⟩
  rintro p q j ⟨rfl,rfl,rfl,h0⟩ z B D;exact absurd ⟨h0,B⟩ k
def S5{i:Nat}{r:aZ}{b:Bool}{a:List Int×Bool}(c:a.2=true):(gn m S t i r b a).2=true:=by
 unfold gn x8;generalize (if b then r.To else r.an)=e;generalize (if b then r.an else r.To)=d
 split
 .split
  .rfl
  .exact c
 .exact c
def De:∀{c i:Nat} {b:List Int×Bool},b.2=true->(e9 m S t c i b).2=true
 |0,_,_,a=>a
 |c+1,i,b,a=>by
  unfold e9;refine De ?_
  split
  .exact S5 (S5 a)
  .exact a
def PJ(x:cP m)(w:0<=t)(u:g.length=m.ai.length):∀(c i:Nat) (a:List Int×Bool),LI m S t g a.1->i+c=m.af.length->
 LI m S t g (e9 m S t c i a).1/\jJ (e9 m S t c i a).1<=jJ a.1/\((e9 m S t c i a).2=true/\jJ (e9 m S t c i a).1<jJ a.1\/e9 m S t c i a=a/\∀e,i<=e->∀r b,m.af[e]?=c7 r->pG (λp q z=>p=(if b then r.To else r.an)/\q=(if b then r.an else r.To)/\z=wT m (e:Int) b 6 9 12/\0<=z) t (λq=>S q=true) (fn a.1))
 |0,i,a,k,C=>⟨k,eH _,.inr ⟨rfl,λe I r b h=>by have:=(dt.1 h).1;omega⟩⟩
 |c+1,i,a,k,C=>by
  have A:i<m.af.length:=by omega
  unfold e9;rw[c6 A];have h:=c6 A;dsimp only;generalize m.af[i]=r at h;obtain⟨G,d⟩:=om x w u h false k;obtain⟨D,n⟩:=om x w u h true G;obtain⟨l,v,f⟩:=PJ x w u c (i+1) _ D (by omega);have B:∀o,o=gn m S t i r true (gn m S t i r false a)->o.2=true->(e9 m S t c (i+1) o).2=true:=λo _ k=>De k
  rcases n with⟨n,s⟩ |⟨n,s⟩
  .rw[n] at l v f B⊢;rcases d with⟨d,y⟩ |⟨d,y⟩
   .rw[d] at l v f s⊢;refine⟨l,v,?_⟩
    rcases f with f |⟨f,E⟩
    .exact .inl f
    .refine .inr ⟨f,λe I F b j=>?_⟩
     by_cases H:e=i
     .subst H;rw[h] at j;injection j with j
      subst j;cases b
      .exact y
      .exact s
     .exact E e (by omega) F b j
   .exact⟨l,by omega,.inl ⟨De d,by omega⟩⟩
  .have:jJ (gn m S t i r false a).1<=jJ a.1:=by
    rcases d with⟨d,_⟩ |⟨_,d⟩
    .rw[d];exact eH _
    .omega
   exact⟨l,by omega,.inl ⟨De n,by omega⟩⟩
end
structure eF (m:ak) (S:Int->Bool) (t:Int) (g out:List Int):Prop extends LI m S t g out where
 cl:pG (rL m) t (λq=>S q=true) (fn out)
def afo{aK:List Int}{d:Bool}{p q b t:Int}(h0:0<=q)(c:q<(aK.length:Int)):CB LC aK d p q b t=c7 (x8 (λ_=>true) (aK,d) q b t):=by
 unfold CB KJ;rw[gH h0 c,iD h0 c];simp only[aa];have f:(bif c5 (max b t<=2147483648) then bif c5 (max b t<fn aK q) then c7 true else c7 false else c7 false)=c7 (c5 (max b t<=2147483648/\max b t<fn aK q/\(λ_=>true) q=true)):=by
  refine fm ?_
  by_cases a:max b t<fn aK q
  .rw[aC a,decide_eq_true ⟨a,rfl⟩]
  .rw[aG a,decide_eq_false (λe=>a e.1)]
 rw[f,aa]
 by_cases a:max b t<=2147483648/\max b t<fn aK q/\(λ_:Int=>true) q=true
 .rw[aC a];exact(congrArg c7 (if_pos a)).symm
 .rw[aG a];exact(congrArg c7 (if_neg a)).symm
def afB{aK:List Int}{d:Bool}{p q a t:Int}{S:List Int}(h:Fit S)(h0:0<=q)(c:q<(aK.length:Int)):DD LC aK d p q a t S=c7 (x8 (λf=>c5 (f∈S)) (aK,d) q a t):=by
 unfold DD Gs;rw[gH h0 c,iD h0 c,contains_eq h];simp only[aa];have e:(bif c5 (max a t<=2147483648) then bif c5 (max a t<fn aK q) then c7 (c5 (q∈S)) else c7 false else c7 false)=c7 (c5 (max a t<=2147483648/\max a t<fn aK q/\c5 (q∈S)=true)):=by
  refine fm ?_
  rw[fm rfl]
  congr 1
  apply decide_eq_decide.2
  rw[decide_eq_true_iff]
 rw[e,aa]
 by_cases b:max a t<=2147483648/\max a t<fn aK q/\c5 (q∈S)=true
 .rw[aC b];exact(congrArg c7 (if_pos b)).symm
 .rw[aG b];exact(congrArg c7 (if_neg b)).symm
def akO{b:Type}{f:b->Int->Option ((b×Int)⊕b)}(g:Bool->b->b)(a:b)(h0:f a 0=c7 (.inl (g false a,1)))(c:f (g false a) 1=c7 (.inl (g true (g false a),2)))(d:∀a,f a 2=c7 (.inr a)):bO (λa:b×Int=>f a.1 a.2) (a,0)=c7 (g true (g false a)):=by
 rw[iO (f:=λa:b×Int=>f a.1 a.2) h0,iO (f:=λa:b×Int=>f a.1 a.2) c];exact fZ (d _)
section
variable {m:ak}{t:Int}
def Nb{b a:Int}(c:fD b)(d:a= -1\/(1<=a/\a<=1000099)):c3 c4 (b+a)=b+a:=by
 unfold fD at c;exact aJ
def P9(p:cP m){aK:List Int}{e:Bool}(z:aK.length=m.ai.length)(o:∀h,h∈aK->fD h){i:Nat}{r:aZ}(v:m.af[i]?=c7 r)(b:Bool)(a:Int)(q:aj [false,true] a=c7 b)(k:0<=a/\a<2):
 th LC r m (i:Int) t aK e a=c7 (.inl ((gn m (λ_=>true) t i r b (aK,e)).1,(gn m (λ_=>true) t i r b (aK,e)).2,a+1)):=by
 obtain⟨c,f⟩:=Cn p v b;have w:=rF m (i:Int) b (u:=6) (d:=9) (l:=12) (by decide);unfold th;rw[aC k.2,q,aa];have j:(bif b then c7 (r.To,r.an) else c7 (r.an,r.To))=c7 ((if b then r.To else r.an),(if b then r.an else r.To)):=by cases b <;> rfl
 rw[j,aa,Cv,aa];dsimp only;unfold gn;generalize (if b then r.To else r.an)=y at c⊢;generalize (if b then r.an else r.To)=x at f⊢;have s:=o _ (oR (l:=aK) c.1 (by omega));rw[gH (l:=aK) c.1 (by omega),iD (l:=aK) c.1 (by omega)];simp only[aa];rw[fm rfl,aa,wL,Nb s w,afo f.1 (by omega),aa,aJ (n:=a+1)]
 split <;> rfl
def MK(q:cP m){aK:List Int}{f:Bool}{S:List Int}(o:Fit S)(A:aK.length=m.ai.length)(p:∀c,c∈aK->fD c){i:Nat}{r:aZ}(w:m.af[i]?=c7 r)(b:Bool)(a:Int)(s:aj [false,true] a=c7 b)(k:0<=a/\a<2):
 tY LC r m (i:Int) t S aK f a=c7 (.inl ((gn m (λc=>c5 (c∈S)) t i r b (aK,f)).1,(gn m (λc=>c5 (c∈S)) t i r b (aK,f)).2,a+1)):=by
 obtain⟨e,h⟩:=Cn q w b;have x:=rF m (i:Int) b (u:=6) (d:=9) (l:=12) (by decide);unfold tY;rw[aC k.2,s,aa];have j:(bif b then c7 (r.To,r.an) else c7 (r.an,r.To))=c7 ((if b then r.To else r.an),(if b then r.an else r.To)):=by cases b <;> rfl
 rw[j,aa,Cv,aa];dsimp only;unfold gn;generalize (if b then r.To else r.an)=z at e⊢;generalize (if b then r.an else r.To)=y at h⊢;have v:=p _ (oR (l:=aK) e.1 (by omega));rw[gH (l:=aK) e.1 (by omega),iD (l:=aK) e.1 (by omega)];simp only[aa];rw[fm rfl,aa,wL,Nb v x,afB o h.1 (by omega),aa,aJ (n:=a+1)]
 split <;> rfl
def O4{e:Type}{f:List Int->Bool->Int->Option ((List Int×Bool×Int)⊕e)}{c d b:List Int×Bool}{r:e}(h0:f c.1 c.2 0=c7 (.inl (d.1,d.2,1)))(h:f d.1 d.2 1=c7 (.inl (b.1,b.2,2)))(i:f b.1 b.2 2=c7 (.inr r)):bO (λa:List Int×Bool×Int=>f a.1 a.2.1 a.2.2) (c.1,c.2,0)=c7 r:=by
 rw[iO (f:=λa:List Int×Bool×Int=>f a.1 a.2.1 a.2.2) h0,iO (f:=λa:List Int×Bool×Int=>f a.1 a.2.1 a.2.2) h];exact fZ i
def yj{S:Int->Bool}:∀(a i:Nat) (b:List Int×Bool),e9 m S t (a+1) i b=(match m.af[i+a]? with |some r=>gn m S t (i+a) r true (gn m S t (i+a) r false (e9 m S t a i b)) |none=>e9 m S t a i b)
 |0,i,b=>by unfold e9 e9;rfl
 |a+1,i,b=>by
  rw[e9];rw[yj a (i+1)];rw[show i+1+a=i+(a+1) by omega]
  rfl
def aeq(h:cP m)(j:0<=t){aK:List Int}(i:aK.length=m.ai.length)(q:∀o,o∈aK->fD o):yf LC aK false m t=c7 ((e9 m (λ_=>true) t m.af.length 0 (aK,false)).1,(e9 m (λ_=>true) t m.af.length 0 (aK,false)).2):=by
 unfold yf;have s:LI m (λ_=>true) t aK aK:=⟨rfl,λ_ _ _=>eH _,q,λA _ p=>p⟩;have C:=h.2.1;have y:∀a,a<=m.af.length->LI m (λ_=>true) t aK (e9 m (λ_=>true) t a 0 (aK,false)).1:=by
  intro a
  induction a with
  |zero=>intro _;exact s
  |succ a x=>
   intro n;have w:a<m.af.length:=by omega
   have e:=c6 w;rw[yj,m5,e];exact(om h j i e true (om h j i e false (x (by omega))).1).1
 have v:=nV (f:=λd:List Int×Bool×Int=>vN LC m t d.1 d.2.1 d.2.2) m.af.length (λa=>((e9 m (λ_=>true) t a 0 (aK,false)).1,(e9 m (λ_=>true) t a 0 (aK,false)).2,(a:Int))) (e9 m (λ_=>true) t m.af.length 0 (aK,false)) (λa n=>?_) (by
  dsimp only;unfold vN;rw[aG])
 .rw[show LC.loop (λd:List Int×Bool×Int=>vN LC m t d.1 d.2.1 d.2.2) (aK,false,0)=_ from v,aa]
 .dsimp only;have e:=c6 n;have l:=y a (by omega);have k:=(om h j i e false l).1;have B:=(om h j i e true k).1;unfold vN;rw[aC,bn,e,aa];have u:=O4 (f:=λz b c=>th LC m.af[a] m (a:Int) t z b c) (c:=e9 m (λ_=>true) t a 0 (aK,false)) (r:=gn m (λ_=>true) t a m.af[a] true (gn m (λ_=>true) t a m.af[a] false (e9 m (λ_=>true) t a 0 (aK,false))))
   (P9 h (l.len.trans i) l.sh e false 0 rfl (by decide)) (P9 h (k.len.trans i) k.sh e true 1 rfl (by decide)) (by unfold th;rfl)
  rw[show LC.loop (λd:List Int×Bool×Int=>th LC m.af[a] m (a:Int) t d.1 d.2.1 d.2.2) _=_ from u,aa,aJ,yj,m5,e]
  rfl
def UZ(i:cP m)(k:0<=t){S:List Int}(o:Fit S){aK:List Int}(j:aK.length=m.ai.length)(s:∀a,a∈aK->fD a):Bj LC aK false m t S=c7 ((e9 m (λa=>c5 (a∈S)) t m.af.length 0 (aK,false)).1,(e9 m (λa=>c5 (a∈S)) t m.af.length 0 (aK,false)).2):=by
 unfold Bj;have u:LI m (λa=>c5 (a∈S)) t aK aK:=⟨rfl,λ_ _ _=>eH _,s,λB _ q=>q⟩;have D:=i.2.1;have z:∀d,d<=m.af.length->LI m (λa=>c5 (a∈S)) t aK (e9 m (λa=>c5 (a∈S)) t d 0 (aK,false)).1:=by
  intro d
  induction d with
  |zero=>intro _;exact u
  |succ d y=>
   intro p;have x:d<m.af.length:=by omega
   have h:=c6 x;rw[yj,m5,h];exact(om i k j h true (om i k j h false (y (by omega))).1).1
 have w:=nV (f:=λe:List Int×Bool×Int=>xS LC m t S e.1 e.2.1 e.2.2) m.af.length (λd=>((e9 m (λa=>c5 (a∈S)) t d 0 (aK,false)).1,(e9 m (λa=>c5 (a∈S)) t d 0 (aK,false)).2,(d:Int))) (e9 m (λa=>c5 (a∈S)) t m.af.length 0 (aK,false)) (λd p=>?_) (by
  dsimp only;unfold xS;rw[aG])
 .rw[show LC.loop (λe:List Int×Bool×Int=>xS LC m t S e.1 e.2.1 e.2.2) (aK,false,0)=_ from w,aa]
 .dsimp only;have h:=c6 p;have n:=z d (by omega);have l:=(om i k j h false n).1;have C:=(om i k j h true l).1;unfold xS;rw[aC,bn,h,aa];have v:=O4 (f:=λA b c=>tY LC m.af[d] m (d:Int) t S A b c) (c:=e9 m (λa=>c5 (a∈S)) t d 0 (aK,false)) (r:=gn m (λa=>c5 (a∈S)) t d m.af[d] true (gn m (λa=>c5 (a∈S)) t d m.af[d] false (e9 m (λa=>c5 (a∈S)) t d 0 (aK,false))))
   (MK i o (n.len.trans j) n.sh h false 0 rfl (by decide)) (MK i o (l.len.trans j) l.sh h true 1 rfl (by decide)) (by unfold tY;rfl)
  rw[show LC.loop (λe:List Int×Bool×Int=>tY LC m.af[d] m (d:Int) t S e.1 e.2.1 e.2.2) _=_ from v,aa,aJ,yj,m5,h]
  rfl
def TT(G:cP m)(F:0<=t){S:Int->Bool}{g:List Int}(k:g.length=m.ai.length)(z:∀h,h∈g->fD h){f:List Int×Bool->Option ((List Int×Bool)⊕List Int)}
 (w:∀aK,aK.length=m.ai.length->(∀h,h∈aK->fD h)->f (aK,true)=c7 (.inl (e9 m S t m.af.length 0 (aK,false)))) (o:∀aK,f (aK,false)=c7 (.inr aK)):Ok (bO f (g,true)) (eF m S t g):=by
 refine oa (λa=>LI m S t g a.1/\(a.2=false->pG (rL m) t (λq=>S q=true) (fn a.1))) (λa=>2*(jJ a.1).toNat+(if a.2 then 1 else 0)) _ (λa c=>?_) _ ⟨⟨rfl,λ_ _ _=>eH _,z,λe _ x=>x⟩,λe=>by cases e⟩
 obtain⟨aK,y⟩:=a;obtain⟨c,D⟩:=c;cases y with
 |false=>exact ok_eq (o aK) ⟨c,D rfl⟩
 |true=>
  refine ok_eq (w aK (c.len.trans k) c.sh) ?_
  obtain⟨l,I,d⟩:=PJ G F k m.af.length 0 (aK,false) c (by omega);have H:=Gn c.sh;have J:=Gn l.sh;rcases d with⟨d,j⟩ |⟨d,j⟩
  .refine⟨⟨l,λe=>by rw[d] at e;cases e⟩,?_⟩
   dsimp only at j⊢;rw[d];simp only[if_true];omega
  .rw[d];refine⟨⟨c,λ_=>?_⟩,by simp⟩
   rintro p q v ⟨i,r,b,C,A,h0,E,n⟩ s u B;exact j i (p0 _) r b C p q v ⟨E,n,A.symm,h0⟩ s u B
def KU(a:cP m)(d:0<=t){g:List Int}(h:g.length=m.ai.length)(i:∀c,c∈g->fD c):Ok (ze LC m g t) (eF m (λ_=>true) t g):=by
 unfold ze;have:=a.1;rw[bV (cX (n:=64) (by omega) (by decide)),aa];refine aD (TT a d h i (f:=λb=>Gt LC m t b.1 b.2) (λaK k e=>?_) (λaK=>rfl)) λl j=>ae j
 unfold Gt;rw[aeq a d k e]
 rfl
def J1(e:cP m)(c:0<=t){g:List Int}(b:g.length=m.ai.length)(d:∀a,a∈g->fD a):Ok (sI LC m g t) (eF m (λ_=>true) t g):=KU e c b d
def akK(b:cP m)(d:0<=t){S g:List Int}(i:Fit S)(h:g.length=m.ai.length)(j:∀a,a∈g->fD a):Ok (Ay LC m g t S) (eF m (λa=>c5 (a∈S)) t g):=by
 unfold Ay;have:=b.1;rw[bV (cX (n:=64) (by omega) (by decide)),aa];refine aD (TT b d h j (f:=λc=>HZ LC m t S c.1 c.2) (λaK l e=>?_) (λaK=>rfl)) λo k=>ae k
 unfold HZ;rw[UZ b d i l e]
 rfl
end
def Fy{b:Bool}{a:Option Bool}{c:Bool}(d:a=c7 c):(bif b then c7 true else a)=c7 (b||c):=by subst d;cases b <;> rfl
def M5{b:Bool}{a:Option Bool}{c:Bool}(d:a=c7 c):(bif (!b) then c7 true else a)=c7 (!b||c):=by subst d;cases b <;> rfl
def Shaped(c:ak)(a:aM):Prop:=a.an.length=c.ai.length/\(0<=a.aa0/\a.aa0<=2147483648)/\∀b,b∈a.an->fD b
instance (a:ak) (b:aM):Decidable (Shaped a b):=by unfold Shaped;infer_instance
def Pk{c:ak}{a:aM}(n:Fit c.ai):ur LC c a=c7 (c5 (Shaped c a)):=by
 unfold ur
 by_cases g:(a.an.length:Int)=(c.ai.length:Int)
 .have j:Fit a.an:=by show a.an.length<=_;have:c.ai.length<=_:=n;omega
  have k:zZ LC a.an=c7 (a.an.any λi=>!c5 (fD i)):=by
   unfold zZ GG;have:=fF (l:=a.an) (P:=λd=>DR LC d) (p:=λi=>!c5 (fD i)) (f:=λe=>GO LC a.an e) j (λd o=>by
    unfold DR;rw[cF,aa]
    by_cases b:d=1099511627776
    .rw[aG (λm=>m b),decide_eq_true (show fD d from .inr b)];rfl
    .rw[aC b]
     congr 2
     apply decide_eq_decide.2
     exact⟨λh=>.inl h,λh=>h.resolve_right b⟩) (λe=>rfl)
   rw[show(LC.loop (λe=>GO LC a.an e) 0).bind _=_ from this,aa,gm]
  rw[aC g,cF,aa,k,aa,ot,fm rfl]
  congr 1
  apply decide_eq_decide.2
  exact⟨λb=>⟨by omega,b⟩,λb=>b.2⟩
 .rw[aG g,decide_eq_false (λb=>g (by have:=b.1;omega))]
def GV{a b:List Int}(m:Fit a):qG LC a b=c7 (c5 (a=b)):=by
 have n:a.length<=4611686018427387904:=m;unfold qG
 by_cases f:(a.length:Int)=(b.length:Int)
 .rw[aG (λh=>h f)];have l:bO (λe=>yU LC a b e) 0=c7 (if ∀i,i<a.length->(λi:Nat=>c5 (a.getD i 0≠b.getD i 0)) i=false then .inr () else .inl ()):=by
   refine oD _ _ () (λi k=>?_) ?_
   .unfold yU;rw[aC,uu k,aa,uu (by omega),aa,aJ]
    by_cases c:a.getD i 0≠b.getD i 0
    .rw[aC c];simp only[decide_eq_true c,cond_true]
    .rw[aG c];simp only[decide_eq_false c,cond_false]
   .unfold yU;rw[aG]
  rw[show LC.loop (λe=>yU LC a b e) 0=_ from l,aa]
  by_cases g:a=b
  .subst g;rw[if_pos (λi k=>decide_eq_false (λh=>h rfl)),decide_eq_true rfl];rfl
  .rw[if_neg (λd=>g ?_),decide_eq_false g];rfl;apply List.ext_getElem (by omega)
   intro i j c;have:=of_decide_eq_false (d i j);rw[ej,pu (c6 j),pu (c6 c)] at this;exact this
 .rw[aC f,decide_eq_false (λd=>f (by rw[d]))]
def uw{c:vG}{a:Int}{g:Int->Int}(e:pG c a (λq=>(λ_:Int=>true) q=true) g):eN c a g:=λp q h f _ b d=>e p q h f rfl b d
def EF{d:vG}{a c:Int}{g:Int->Int}(f:eN d a g)(j:a<=c):eN d c g:=λp q i h b e k=>by
 have:=f p q i h b e (by omega);omega
def jK(b:ak)(a:aM):Prop:=Shaped b a/\eN (rL b) a.aa0 (fn a.an)
def OI(d:ak)(f:aM):Ok (n7 LC d f) λb=>b=true->cP d/\jK d f:=by
 unfold n7;rw[ko,aa];refine aV (λe=>?_) (λ_=>ae λa=>by cases a)
 have:=e.1;rw[Pk (by show d.ai.length<=_;omega),aa];refine aV (λc=>?_) (λ_=>ae λa=>by cases a)
 refine aD (KU e c.2.1.1 c.1 c.2.2) λout g=>?_
 rw[GV (by show out.length<=_;rw[g.len,c.1];omega),aa];refine ae λa=>⟨e,c,?_⟩
 rw[<-of_decide_eq_true a];exact uw g.cl
def aiV{n:Int}(h0:0<=n)(i:n<=1000):vk LC 1 n=c7 (0,n):=by
 have h:∀a:Nat,a<=1000->vk LC 1 (a:Int)=c7 (0,(a:Int)):=by
  intro a j;have f:iN .u64 1 32=c7 0:=by rfl
  have b:iN .u64 (a:Int) 32=c7 0:=by
   rw[AD (by omega),show(2:Int)^ (min (32:Int).toNat hQ.bits)=4294967296 from rfl,ih _ (by omega),Int.ediv_eq_zero_of_lt (by omega) (by omega)]
  have e:bits .and .u64 (a:Int) 4294967295=(a:Int):=by
   show hQ.wrap ((m6 64 (a:Int) &&& m6 64 ((4294967295:Nat):Int)).toNat:Int)=_
   rw[BitVec.toNat_and,j1,j1,j6,j6,kh (show a<2^64 by omega),show(4294967295:Nat)%2^64=2^32 -1 from rfl,Nat.and_two_pow_sub_one_eq_mod,kh (by omega),mB (by omega) (by omega)]
  have g:bits .and .u64 1 4294967295=1:=by rfl
  have c:iN .u64 0 32=c7 0:=by rfl
  have d:bits .and .u64 0 4294967295=0:=by rfl
  have z:hQ.wrap 0=0:=by rfl
  unfold vk;rw[f,aa,b,aa,e,g];simp only[Int.one_mul,Int.mul_zero,q6,ma,Int.mul_one,z];rw[mB (n:=(a:Int)) (by omega) (by omega),b,aa,z,c,aa,d,ma,z,c,aa]
  rfl
 obtain⟨a,rfl⟩:=j7 h0;exact h a (by omega)
def aaT{v:Int}(c:Nat)(w:c<=1000):∀(g:Nat) (a:Nat) (b:List Int),1<=a->c -a<=g->b.length=c->(∀i,i<a->i<c->b[i]?=c7 v)->bO (λj:List Int×Int=>pZ LC j.1 j.2) (b,(a:Int))=c7 (ec c v):=by
 intro g
 induction g with
 |zero=>
  intro a b r o m f;refine fZ ?_
  dsimp only;unfold pZ;rw[aG]
  congr 2
  apply la
  intro i
  by_cases d:i<c
  .rw[f i (by omega) d,hq,if_pos d]
  .rw[ie (by omega),hq,if_neg d]
 |succ g t=>
  intro a b r o m f
  by_cases u:a<c
  .let e:=(b.drop (0:Int).toNat).take ((a:Int).toNat - (0:Int).toNat)
   have n:e=b.take a:=by show(b.drop 0).take (a -0)=_;rw[k0,Nat.sub_zero]
   have q:e.length=a:=by rw[n,ea];omega
   have h:X.mg e (a:Int).toNat ((b.length:Int).toNat - (a:Int).toNat) b=b.take a++((b.take a).take (c -a)++b.drop (a+((b.take a).take (c -a)).length)):=by
    unfold X.mg;rw[n,dk,dk,m]
   rw[iO (a':=(X.mg e (a:Int).toNat ((b.length:Int).toNat - (a:Int).toNat) b,((a+min (c -a) a:Nat):Int)))]
   .refine t (a+min (c -a) a) _ (by omega) (by omega) ?_ (λi d p=>?_)
    .rw[h];simp only[eo,ea,h5];omega
    .rw[h];have l:(b.take a).length=a:=by rw[ea];omega
     have x:((b.take a).take (c -a)).length=min (c -a) a:=by rw[ea,l]
     by_cases k:i<a
     .rw[h6 (by omega),l3,if_pos k];exact f i k p
     .rw[eE (by omega),l,h6 (by omega),l3,if_pos (by omega),l3,if_pos (by omega)];exact f _ (by omega) (by omega)
   .dsimp only;unfold pZ;rw[aC,l8 (by omega) (by omega) (by omega),aa,l8 (by omega) (by omega) (by omega),aa];have s:c3 c4 ((a:Int)+((min ((b.length:Int).toNat - (a:Int).toNat) e.length:Nat):Int))=((a+min (c -a) a:Nat):Int):=by
     rw[q,aJ];omega
    show c7 (m0 (_,c3 c4 ((a:Int)+((min ((b.length:Int).toNat - (a:Int).toNat) e.length:Nat):Int))))=_
    rw[s]
  .refine fZ ?_
   dsimp only;unfold pZ;rw[aG]
   congr 2
   apply la
   intro i
   by_cases d:i<c
   .rw[f i (by omega) d,hq,if_pos d]
   .rw[ie (by omega),hq,if_neg d]
def Oa{v:Int}{n:Nat}(g:n<=1000):EC LC [v] (n:Int)=c7 (ec n v):=by
 unfold EC DJ;have f:hQ.wrap (([v].length:Nat):Int)=1:=by simp only[ey,hL];rfl
 rw[aG,f,mB (n:=(n:Int)) (by omega) (by omega),aiV (by omega) (by omega),aa,aa,ew rfl,aa,aG (by dsimp only;omega)];dsimp only;rw[aJ,nS (by omega) (by omega),aa,dk]
 by_cases h0:n=0
 .subst h0;have b:bO (λa:List Int×Int=>pZ LC a.1 a.2) ([],0)=c7 []:=fZ (by dsimp only;unfold pZ;rw[aG (by simp)]);exact(dL (m:=LC.loop (λa:List Int×Int=>pZ LC a.1 a.2) ([],0)) b)
 .have e:X.mg [v] 0 (ec n (0:Int)).length (ec n (0:Int))=v::ec (n -1) 0:=by
   obtain⟨c,rfl⟩:∃c,n=c+1:=⟨n -1,by omega⟩;unfold X.mg;rw[e6];simp[List.replicate_succ]
  rw[e,e6];have d:((min n ([v]:List Int).length:Nat):Int)=((1:Nat):Int):=by simp only[ey,hL];omega
  rw[d];have b:=aaT (v:=v) n g n 1 (v::ec (n -1) 0) (h8 _) (by omega) (by simp only[ey,e6];omega) (λi h _=>by
   have:i=0:=by omega
   subst this;rfl)
  exact dL b
def B6{v:Int}{a:Nat}(b:a<=1000):sJ LC [v] (a:Int)=c7 (ec a v):=Oa b
def QL{a:ak}(b:cP a):yF LC a=c7 (ec a.ai.length 1099511627776):=by
 have:=b.1;unfold yF;rw[B6 (by omega),aa]
def aoN{a:Nat}{v p:Int}(h0:0<=p)(b:p<(a:Int)):fn (ec a v) p=v:=Q4 (by rw[hq,if_pos (by omega)])
def aaW{a:ak}(e:cP a){p t:Int}(b:0<=p/\p<(a.ai.length:Int))(c:0<=t/\t<=2147483648):Ok (Cr LC a p t) λq=>q.2=0/\q.1.aa0=t/\jK a q.1/\fn q.1.an p<=t:=by
 have:=e.1;unfold Cr;rw[ko,aa,de,aC e,aJ,cF,aa,de,aC,cF,aa,de,aC c,QL e,aa];have h:(ec a.ai.length (1099511627776:Int)).length=a.ai.length:=e6;rw[gH b.1 (by omega),aa,iD b.1 (by omega),aa];have i:∀f,f∈(ec a.ai.length (1099511627776:Int)).set p.toNat t->fD f:=λf g=>by
  rcases ev g with g |rfl
  .exact .inr (gx g)
  .exact .inl c
 refine aD (J1 e c.1 (by rw[dT];exact h) i) λout d=>ae ⟨rfl,rfl,⟨⟨?_,c,d.sh⟩,uw d.cl⟩,?_⟩
 .show out.length=_
  rw[d.len,dT];exact h
 .have:=d.le p b.1 (by rw[dT,h];exact b.2);rw[wy b.1 (by omega) b.1,if_pos rfl] at this;exact this
def x4(a:ak)(b:List Int):Prop:=cj 0 ((a.ai.length:Int) -1) b
instance (a:ak) (b:List Int):Decidable (x4 a b):=by unfold x4;infer_instance
def x4.fit{m:ak}(a:cP m){l:List Int}(h:x4 m l):l.length<=64:=by
 have:=cj.len h (by omega);have:=a.1;omega
def ME(c:ak)(f:aM)(g:List Int)(e b:Int)(o:Fit g)(m:Fit c.ai):Ok (vY LC c f g e b) λd=>(d=0\/d=6\/d=8)/\(d=0->cP c/\jK c f/\x4 c g/\(0<=e/\e<=2147483648)/\(0<=b/\b<=2147483648)/\e<=b):=by
 have p:c.ai.length<=4611686018427387904:=m;unfold vY;obtain⟨v,k,i⟩:=OI c f;rw[k,aa,aJ (n:=(c.ai.length:Int) -1),kw _ _ _ o,aa,lA,ew rfl,M5 rfl,aa];refine dy (λa=>ae ⟨.inr (.inl rfl),λa=>by cases a⟩) (λa=>?_)
 rw[j2] at a;have h:=i (by simpa using a.1);have j:=of_decide_eq_false a.2;rw[cF,aa,cF,aa,fh (fh rfl),aa];refine aV (λa=>ae ⟨.inr (.inr rfl),λa=>by cases a⟩) (λq=>ae ⟨.inl rfl,λ_=>⟨h.1,h.2,dv λl=>j (.inr l),?_⟩⟩)
 omega
structure lG (m:ak) (w:aM) (l:List Int) (a b:Int) (x:aM):Prop where
 fN:cP m
 bG:jK m w
 new:jK m x
 time:x.aa0=b
 ab:0<=a/\a<=b/\b<=2147483648
 from_:w.aa0<=a
 cl:eN (rL m) a (fn x.an)
 low:∀p,p∈l->fn w.an p<=b->fn x.an p<=fn w.an p
 NK:∀p,0<=p->p<(m.ai.length:Int)->fn w.an p<=fn x.an p
def afE(f:ak)(a:aM)(l:List Int)(D b:Int)(ac:Fit l)(ah:Fit f.ai):Ok (yX LC f a l D b) λq=>(q.2=0/\lG f a l D b q.1)\/(q.2=43/\q.1=a/\a.aa0<=D/\∀p,p∈l->b<fn a.an p)\/((q.2=6\/q.2=8\/q.2=42)/\q.1=a):=by
 unfold yX;refine aD (ME f a l D b ac ah) λs N=>?_
 refine aV (λz=>ae (.inr (.inr ⟨?_,rfl⟩))) (λz=>?_)
 .rcases N.1 with c |c |c
  .exact absurd c z
  .exact .inl c
  .exact .inr (.inl c)
 obtain⟨C,v,h,M,O,K⟩:=N.2 (ej.1 z);refine aV (λz=>ae (.inr (.inr ⟨.inr (.inr rfl),rfl⟩))) (λc=>?_)
 rw[QL C,aa];have ai:=v.1.1;have aj:=h.fit C;have af:(ec f.ai.length (1099511627776:Int)).length=f.ai.length:=e6;have S:∀p,0<=p->p<(f.ai.length:Int)->fn a.an p<=1099511627776:=λp h0 c=>by
  have:=v.1.2.2 _ (oR (l:=a.an) h0 (by omega));unfold fD at this;omega
 have E:∀p,p∈l->0<=p/\p<(f.ai.length:Int):=λp X=>by have:=h.mem X;omega
 have ab:Ok (bO (λe:List Int×Bool×Int=>Ds LC l a b e.1 e.2.1 e.2.2) (ec f.ai.length (1099511627776:Int),false,0)) λt=>
  t.1.length=f.ai.length/\(∀x,x∈t.1->fD x)/\(∀p,0<=p->p<(f.ai.length:Int)->fn a.an p<=fn t.1 p)/\(∀p,p∈l->fn a.an p<=b->fn t.1 p<=fn a.an p/\t.2=true):=by
  refine di l.length (λi e=>e.2.2=(i:Int)/\e.1.length=f.ai.length/\(∀x,x∈e.1->fD x)/\(∀p,0<=p->p<(f.ai.length:Int)->fn a.an p<=fn e.1 p)/\(∀g p,g<i->l[g]?=c7 p->fn a.an p<=b->fn e.1 p<=fn a.an p/\e.2.1=true)) _ (λi e P H=>?_) (λe H=>?_) _ ⟨rfl,af,λx w=>.inr (gx w),λp h0 c=>by rw[aoN h0 c];exact S p h0 c,λg p y=>by omega⟩
  .obtain⟨aK,ad,W⟩:=e;obtain⟨rfl,j,r,k,m⟩:=H;dsimp only at j r k m⊢;have B:l[i]?=c7 l[i]:=c6 P;have o:=E _ (dd P);generalize l[i]=p at B o;unfold Ds;rw[aC,bn,B,aa,gH o.1 (by omega),aa,aa,gH (l:=aK) o.1 (by omega),aa,iD (l:=aK) o.1 (by omega),aa];have R:=λq d=>wy (l:=aK) (p:=p) (q:=q) (x:=fn a.an p) o.1 (by omega) d
   by_cases J:fn a.an p<=b
   .rw[aC J,aa,aJ];refine ae ⟨rfl,by rw[dT];exact j,λx w=>?_,λq h0 c=>?_,λg q y d A=>⟨?_,rfl⟩⟩
    .rcases ev w with w |rfl
     .exact r x w
     .exact v.1.2.2 _ (oR (l:=a.an) o.1 (by omega))
    .dsimp only;rw[R q h0]
     split
     .rename_i s;rw[s];exact eH _
     .exact k q h0 c
    .dsimp only;have V:=E q (fC d);rw[R q V.1]
     split
     .rename_i s;rw[s];exact eH _
     .rename_i s
      by_cases I:g=i
      .subst I;rw[B] at d;injection d with d
       exact absurd d.symm s
      .exact(m g q (by omega) d A).1
   .rw[aG J,aa,aJ];refine ae ⟨rfl,j,r,k,λg q y d A=>?_⟩
    by_cases I:g=i
    .subst I;rw[B] at d;injection d with d
     subst d;exact absurd A J
    .exact m g q (by omega) d A
  .obtain⟨aK,ad,W⟩:=e;obtain⟨rfl,j,r,k,m⟩:=H;dsimp only at j r k m⊢;unfold Ds;rw[aG];refine ae ⟨j,r,k,λp h G=>?_⟩
   obtain⟨g,y,rfl⟩:=e5.1 h;exact m g _ y (c6 y) G
 refine aD ab λt T=>?_
 obtain⟨u,Z,ag,L⟩:=T;rw[de];refine dy (λF=>?_) (λF=>ae (.inr (.inl ⟨rfl,rfl,by omega,λp h=>?_⟩)))
 .refine aD (J1 C M.1 u Z) λout n=>ae (.inl ⟨rfl,C,v,⟨⟨n.len.trans u,O,n.sh⟩,EF (uw n.cl) K⟩,rfl,⟨M.1,K,O.2⟩,by omega,uw n.cl,λp h G=>?_,λp h0 c=>?_⟩)
  .have Q:=E p h;exact q7 (n.le p Q.1 (by rw[u];exact Q.2)) (L p h G).1
  .refine n.low (fn a.an) (λp q U j _ k m=>?_) (λp h0 c=>ag p h0 (by rw[u] at c;exact c)) p h0 (by rw[u];exact c)
   exact EF v.2 (by omega) p q U j trivial k m
 .refine Int.not_le.1 λY=>?_
  rw[(L p h Y).2] at F;cases F
structure og (m:ak) (w:aM) (l:List Int) (a b blind:Int) (x:aM) (g1:List Int):Prop where
 fN:cP m
 bG:jK m w
 new:jK m x
 time:x.aa0=b
 ab:0<=a/\a<=b/\b<=2147483648
 from_:w.aa0<=b
 bl:0<=blind/\blind<b -max a w.aa0
 off:∀p,0<=p->p<(m.ai.length:Int)->p∉l->fn g1 p<=fn w.an p
 c1:pG (rL m) (b -blind) (λq=>q∈l) (fn g1)
 le:∀p,0<=p->p<(m.ai.length:Int)->fn x.an p<=fn g1 p
 NK:∀p,0<=p->p<(m.ai.length:Int)->fn w.an p<=fn x.an p
def aaS(d:ak)(c:aM)(l:List Int)(A b G:Int)(J:Fit l)(ab:Fit d.ai):Ok (wV LC d c l A b G) λq=>(q.2=0/\((∃w,og d c l A b G q.1 w)\/q.1=c))\/((q.2=6\/q.2=8\/q.2=42)/\q.1=c):=by
 unfold wV;refine aD (ME d c l A b J ab) λy I=>?_
 refine aV (λD=>ae (.inr ⟨?_,rfl⟩)) (λD=>?_)
 .rcases I.1 with a |a |a
  .exact absurd a D
  .exact .inl a
  .exact .inr (.inl a)
 obtain⟨u,o,z,T,C,N⟩:=I.2 (ej.1 D);rw[cF,aa,de];refine aV (λV=>?_) (λ_=>ae (.inr ⟨.inr (.inl rfl),rfl⟩))
 refine aV (λ_=>ae (.inr ⟨.inr (.inr rfl),rfl⟩)) (λa=>?_)
 have ag:=o.1.2.1;rw[aJ (n:=b -max A c.aa0)];refine aV (λ_=>ae (.inl ⟨rfl,.inr rfl⟩)) (λac=>?_)
 have S:=o.1.1;have af:=u.1;have ad:=z.fit u;have P:∀p,p∈l->0<=p/\p<(d.ai.length:Int):=λp U=>by have:=z.mem U;omega
 have M:∀p,0<=p->p<(d.ai.length:Int)->fn c.an p<=1099511627776:=λp h0 a=>by
  have:=o.1.2.2 _ (oR (l:=c.an) h0 (by omega));unfold fD at this;omega
 rw[bV (cX (n:=64) (by omega) (by decide)),aa];have X:Ok (bO (λe:List Int×Int=>CO LC l e.1 e.2) (c.an,0)) λt=>
  t.length=d.ai.length/\(∀x,x∈t->fD x)/\(∀p,0<=p->p<(d.ai.length:Int)->fn c.an p<=fn t p)/\(∀p,0<=p->p<(d.ai.length:Int)->p∉l->fn t p=fn c.an p):=by
  refine di l.length (λi e=>e.2=(i:Int)/\e.1.length=d.ai.length/\(∀x,x∈e.1->fD x)/\(∀p,0<=p->p<(d.ai.length:Int)->fn c.an p<=fn e.1 p)/\(∀p,0<=p->p<(d.ai.length:Int)->p∉l->fn e.1 p=fn c.an p)) _ (λi e F B=>?_) (λe B=>?_) _ ⟨rfl,S,o.1.2.2,λp h0 a=>eH _,λp _ _ _=>rfl⟩
  .obtain⟨aK,R⟩:=e;obtain⟨rfl,f,m,g,h⟩:=B;dsimp only at f m g h⊢;have K:l[i]?=c7 l[i]:=c6 F;have r:=P _ (dd F);have H:=dd F;generalize l[i]=p at K r H;unfold CO;rw[aC,bn,K,aa,gH (l:=aK) r.1 (by omega),aa,iD (l:=aK) r.1 (by omega),aa,aJ];have L:=λq v=>wy (l:=aK) (p:=p) (q:=q) (x:=1099511627776) r.1 (by omega) v
   refine ae ⟨rfl,by rw[dT];exact f,λx E=>?_,λq h0 a=>?_,λq h0 a v=>?_⟩
   .rcases ev E with E |rfl
    .exact m x E
    .exact .inr rfl
   .dsimp only;rw[L q h0]
    split
    .rename_i y;rw[y];exact M p r.1 r.2
    .exact g q h0 a
   .dsimp only;rw[L q h0,if_neg (λy=>v (by rw[y];exact H))];exact h q h0 a v
  .obtain⟨aK,R⟩:=e;obtain⟨rfl,f,m,g,h⟩:=B;dsimp only at f m g h⊢;unfold CO;rw[aG];exact ae ⟨f,m,g,h⟩
 refine aD X λt O=>?_
 obtain⟨k,W,Z,Q⟩:=O;rw[aJ (n:=b -G)];refine aD (akK u (by omega) J k W) λw j=>?_
 refine aD (J1 u C.1 (j.len.trans k) j.sh) λout s=>ae (.inl ⟨rfl,.inl ⟨w,?_⟩⟩)
 have Y:∀p,0<=p->p<(d.ai.length:Int)->fn c.an p<=fn w p:=λp h0 a=>
  j.low (fn c.an) (λp q n f _ g h=>EF o.2 (by omega) p q n f trivial g h) (λp h0 a=>Z p h0 (by rw[k] at a;exact a)) p h0 (by rw[k];exact a)
 refine⟨u,o,⟨⟨s.len.trans (j.len.trans k),C,s.sh⟩,uw s.cl⟩,rfl,⟨T.1,N,C.2⟩,by omega,⟨V.1,by omega⟩,λp h0 a z=>?_,λp q n f m g h=>j.cl p q n f (decide_eq_true m) g h,λp h0 a=>s.le p h0 (by rw[j.len,k];exact a),λp h0 a=>?_⟩
 .rw[<-Q p h0 a z];exact j.le p h0 (by rw[k];exact a)
 .exact s.low (fn c.an) (λp q n f _ g h=>EF o.2 (by omega) p q n f trivial g h) (λp h0 a=>Y p h0 (by rw[j.len,k] at a;exact a)) p h0 (by rw[j.len,k];exact a)
def acF{a:aM}{b:Int}(c:Sm a.an):xc LC a b=c7 (if b<a.aa0\/2147483648<b then(a,8) else(⟨b,a.an⟩,0)):=by
 unfold xc;rw[ew rfl,aa,bV c,aa,wL]
 split <;> rfl
structure mP (m:ak) (w:aM) (t:Int) (x:aM):Prop where
 fN:cP m
 bG:Shaped m w
 new:jK m x
 time:x.aa0=t
 wt:w.aa0<=t/\t<=2147483648
 le:∀p,0<=p->p<(m.ai.length:Int)->fn x.an p<=fn w.an p
 NK:∀h:Int->Int,eN (rL m) t h->(∀p,0<=p->p<(m.ai.length:Int)->h p<=fn w.an p)->∀p,0<=p->p<(m.ai.length:Int)->h p<=fn x.an p
def Pd(d:ak)(e:aM)(f:Int)(n:Fit d.ai):Ok (xT LC d e f) λq=>(q.2=0/\mP d e f q.1)\/((q.2=6\/q.2=8)/\q.1=e):=by
 unfold xT;rw[ko,aa,Pk n,aa,lA,fh rfl,aa];refine aV (λ_=>ae (.inr ⟨.inl rfl,rfl⟩)) (λa=>?_)
 have h:cP d:=dv λg=>a (.inl g)
 have b:Shaped d e:=dv λg=>a (.inr g)
 rw[ew rfl,aa];refine aV (λ_=>ae (.inr ⟨.inr rfl,rfl⟩)) (λs=>?_)
 have t:=b.2.1;refine aD (KU h (by omega) b.1 b.2.2) λout c=>ae (.inl ⟨rfl,h,b,⟨⟨c.len.trans b.1,⟨by show 0<=f;omega,by show f<=_;omega⟩,c.sh⟩,uw c.cl⟩,rfl,⟨by omega,by omega⟩,λp h0 a=>c.le p h0 (by rw[b.1];exact a),λk i j p h0 a=>?_⟩)
 exact c.low k (λp q o r _ l m=>i p q o r trivial l m) (λp h0 a=>j p h0 (by rw[b.1] at a;exact a)) p h0 (by rw[b.1];exact a)
def acr(f:List Int)(a:ak)(c b:Int):IJ LC f a c b=xT LC a ⟨c,f⟩ b:=rfl
def ib(a b:aM):aM:=⟨max a.aa0 b.aa0,ef min a.an b.an⟩
def join_eq{a b:aM}(k:a.an.length=b.an.length)(h:Sm a.an):xW LC a b=c7 (ib a b,0):=by
 have l:a.an.length<=1000000:=h;unfold xW;rw[aG];have g:=nV (f:=λc:Int×List Int×Int=>EG LC a b (aM.mk c.1 c.2.1) c.2.2) a.an.length (λi=>(max a.aa0 b.aa0,(ef min a.an b.an).take i,(i:Int))) (max a.aa0 b.aa0,ef min a.an b.an) (λi j=>?_) (by
  dsimp only;unfold EG;rw[aG,hM (by rw[ga];omega)])
 .refine(dL g).trans ?_
  rfl
 .dsimp only;unfold EG;have e:(ef min a.an b.an)[i]?=c7 (min a.an[i] (b.an[i]'(by omega))):=by
   rw[c6 (by rw[ga];omega),hS]
  rw[aC,bn,c6 j,aa,bn,c6 (by omega),aa,dm (by decide) (by dsimp only;rw[ea,ga];omega),aa,aJ];have d:(ef min a.an b.an).take (i+1)=(ef min a.an b.an).take i++[min a.an[i] (b.an[i]'(by omega))]:=by
   rw[o4,e];rfl
  rw[d]
  rfl
def PL{a b:aM}{p:Int}(f:a.an.length=b.an.length)(h0:0<=p)(d:p<(a.an.length:Int)):fn (ib a b).an p=min (fn a.an p) (fn b.an p):=by
 have e:=iD (l:=a.an) h0 d;have c:=iD (l:=b.an) h0 (by omega);refine Q4 ?_
 show(ef min a.an b.an)[p.toNat]?=_
 rw[List.getElem?_zipWith,e,c]
def jK.join{m:ak}{a b:aM}(c:jK m a)(d:jK m b)(C:cP m):jK m (ib a b):=by
 have k:a.an.length=b.an.length:=c.1.1.trans d.1.1.symm;have F:=c.1.2.1;have H:=d.1.2.1;refine⟨⟨?_,⟨?_,?_⟩,λx y=>?_⟩,λp q n B _ w t=>?_⟩
 .show(ef min a.an b.an).length=_
  rw[ga, <-k,c.1.1];omega
 .show 0<=max a.aa0 b.aa0;omega
 .show max a.aa0 b.aa0<=_;omega
 .obtain⟨i,hi,rfl⟩:=e5.1 (show x∈ef min a.an b.an from y);rw[ga] at hi;rw[hS];have E:=c.1.2.2 _ (dd (show i<a.an.length by omega));have D:=d.1.2.2 _ (dd (show i<b.an.length by omega));unfold fD at*;omega
 .obtain⟨i,r,h,j,s,h0,l,e⟩:=B;obtain⟨u,o⟩:=Cn C j h;rw[<-l] at u;rw[<-e] at o;have G:=c.1.1;rw[PL k u.1 (by omega)] at w t⊢;rw[PL k o.1 (by omega)];have A:(ib a b).aa0=max a.aa0 b.aa0:=rfl;rw[A] at t⊢
  by_cases I:fn a.an p<=fn b.an p
  .have:=c.2 p q n ⟨i,r,h,j,s,h0,l,e⟩ trivial (by omega) (by omega);omega
  .have:=d.2 p q n ⟨i,r,h,j,s,h0,l,e⟩ trivial (by omega) (by omega);omega
def kM(p:Int->Bool)(a:Nat):List Int:=(List.range a).filterMap λ(i:Nat)=>if p (i:Int) then c7 (i:Int) else j4
def SJ{p:Int->Bool}{c:Nat}{a:Int}:a∈kM p c↔0<=a/\a<(c:Int)/\p a=true:=by
 unfold kM;rw[List.mem_filterMap]
 constructor
 .rintro⟨i,e,b⟩;rw[my] at e
  split at b
  .injection b with b
   subst b;exact⟨by omega,by omega,by assumption⟩
  .cases b
 .rintro⟨f,g,d⟩;refine⟨a.toNat,my.2 (by omega),?_⟩
  rw[show((a.toNat:Nat):Int)=a by omega,if_pos d]
def pQ{p:Int->Bool}{n:Nat}:(kM p n).length<=n:=by
 unfold kM;exact hz (List.length_filterMap_le _ _) (by rw[List.length_range];exact h8 _)
def afI{p:Int->Bool}{a:Nat}:kM p (a+1)=if p (a:Int) then kM p a++[(a:Int)] else kM p a:=by
 unfold kM;rw[List.range_succ,List.filterMap_append]
 split
 .rename_i b;simp[b]
 .rename_i b;simp[b]
def GY{n:Nat}(l:n<=1000000){P:Int->Option Bool}{p:Int->Bool}{f:List Int×Int->Option ((List Int×Int)⊕List Int)}(h:∀i:Nat,i<n->P (i:Int)=c7 (p (i:Int)))
 (c:∀b a,f (b,a)=bif c5 (a<(n:Int)) then(P a).bind λd=>(bif d then(bj 8 b ([a]:List Int)).bind λe=>c7 e else c7 b).bind λg=>c7 (.inl (g,c3 c4 (a+1))) else c7 (.inr b)):
 bO f ([],0)=c7 (kM p n):=by
 refine nV (f:=f) n (λi=>(kM p i,(i:Int))) (kM p n) (λi j=>?_) (by rw[c,aG])
 rw[c,aC,h i j,aa,afI];have:=pQ (p:=p) (n:=i);rw[dm (by decide) (by omega),aJ];cases k:p (i:Int) with
 |true=>rfl
 |false=>rfl
def dz(a:aM)(b:Int):List Int:=kM (λp=>c5 (fn a.an p<=b)) a.an.length
def Az{a:aM}{c:Int}(d:Sm a.an):su LC a c=c7 (dz a c):=by
 unfold su HL;have e:=GY (n:=a.an.length) d (P:=λb=>Dw LC b a c) (p:=λp=>c5 (fn a.an p<=c)) (f:=λb=>Ge LC (a.an.length:Int) a c b.1 b.2) (λi g=>by
  unfold Dw;rw[gH (by omega) (by omega),aa]) (λh b=>rfl)
 rw[show LC.loop (λb:List Int×Int=>Ge LC (a.an.length:Int) a c b.1 b.2) ([],0)=_ from e,aa,aa]
 rfl
def Sq{b:aM}{c a:Int}:a∈dz b c↔0<=a/\a<(b.an.length:Int)/\fn b.an a<=c:=by
 unfold dz;rw[SJ,decide_eq_true_iff]
def Zn{c b:aM}{a:Int}(k:Sm c.an)(j:Sm b.an):EE LC c b a=c7 (c5 (∃d,d∈dz c a/\d∈dz b a)):=by
 unfold EE;rw[Az j,aa,Az k,aa];have n:Fit (dz b a):=by
  have:(dz b a).length<=b.an.length:=pQ;have:b.an.length<=1000000:=j;show(dz b a).length<=_
  omega
 have o:Fit (dz c a):=by
  have:(dz c a).length<=c.an.length:=pQ;have:c.an.length<=1000000:=k;show(dz c a).length<=_
  omega
 have m:B3 LC (dz c a) (dz b a)=c7 ((dz c a).any λd=>c5 (d∈dz b a)):=by
  unfold B3 Iw;have:=fF (l:=dz c a) (P:=λi=>zO LC i (dz b a)) (p:=λd=>c5 (d∈dz b a)) (f:=λe=>IF LC (dz c a) (dz b a) e) o (λi q=>by
   unfold zO;rw[contains_eq n,aa]) (λe=>rfl)
  rw[show(LC.loop (λe=>IF LC (dz c a) (dz b a) e) 0).bind _=_ from this,aa,gm]
 rw[m,aa]
 congr 1
 rw[mb,m3,decide_eq_true_iff]
 constructor
 .rintro⟨d,h,g⟩;exact⟨d,h,of_decide_eq_true g⟩
 .rintro⟨d,h,g⟩;exact⟨d,h,decide_eq_true g⟩
structure tz (w:ay):Prop where
 tg:Sm w.aw
 wh:Sm w.aH
 fr:∀x,x∈w.aH->Sm x.an
def gF(b:aL):Prop:=Sm b.aA/\∀a,a∈b.aA->tz a
def Tz{a:ay}(e:tz a):oM LC a=c7 a:=by
 unfold oM;rw[bV e.tg,aa];have h:=jm (f:=λd:List Int×List aM×Int=>r9 LC a (ay.mk d.1 d.2.1) d.2.2) a.aH (λb i=>(a.aw,b,i)) (λb=>(a.aw,b)) (λb j k c=>by
  dsimp only;unfold r9;have g:=jW e.wh c;rw[aC (iy c),jg c,aa,bV (e.fr j (ks c)),aa,dm (by decide) g,aa,aJ]) (by
  dsimp only;unfold r9;rw[aG])
 exact dL h
def zK{a:ay}(e:tz a):mH LC a=c7 (a.aH,a.aw):=by
 unfold mH;rw[bV e.tg,aa];have h:=jm (f:=λd:List Int×List aM×Int=>CH LC a (ay.mk d.1 d.2.1) d.2.2) a.aH (λb i=>(a.aw,b,i)) (λb=>(a.aw,b)) (λb j k c=>by
  dsimp only;unfold CH;have g:=jW e.wh c;rw[aC (iy c),jg c,aa,bV (e.fr j (ks c)),aa,dm (by decide) g,aa,aJ]) (by
  dsimp only;unfold CH;rw[aG])
 exact dL h
def Zo{a:ay}(d:tz a):Ac LC a=c7 (a.aw,a.aH):=by
 unfold Ac;rw[bV d.tg,aa];have h:=jm (f:=λe:List aM×Int=>CV LC a (ay.mk a.aw e.1) e.2) a.aH (λb i=>(b,i)) (λb=>b) (λb j k c=>by
  dsimp only;unfold CV;have g:=jW d.wh c;rw[aC (iy c),jg c,aa,bV (d.fr j (ks c)),aa,dm (by decide) g,aa,aJ]) (by
  dsimp only;unfold CV;rw[aG])
 exact dL h
def kG(a b:Int):Int:=if a<b then -1 else if b<a then 1 else 0
def G1(c b:Int):uE LC c b=c7 (kG c b):=by
 unfold uE Cl kG;rw[aa,aa,aG (λa=>a rfl),aG (λa=>a rfl),wL]
 split
 .rfl
 .rw[wL];split <;> rfl
def iH:List Int->List Int->Int
 |[],[]=>0
 |[],_::_=>-1
 |_::_,[]=>1
 |c::d,a::b=>if c<a then -1 else if a<c then 1 else iH d b
def PW{a b:List Int}(q:Sm a):sL LC a b=c7 (iH a b):=by
 have s:a.length<=1000000:=q;unfold sL;have r:∀(e i:Nat),i+e=a.length->i<=b.length->((bO (λk=>ui LC a b k) (i:Int)).bind λp=>Sum.elim (λo=>c7 o) (λt=>bif c5 ((a.length:Int)<(b.length:Int)) then c7 (-1) else c7 0) p)=c7 (iH (a.drop i) (b.drop i)):=by
  intro e
  induction e with
  |zero=>
   intro i n m;rw[fZ (b:=Sum.inr ()) (by unfold ui;rw[aG]),aa,ei,hY (show a.length<=i by omega)]
   by_cases d:(a.length:Int)<(b.length:Int)
   .rw[aC d,gb (show i<b.length by omega)];rfl
   .rw[aG d,hY (show b.length<=i by omega)];rfl
  |succ e l=>
   intro i n m;have f:i<a.length:=by omega
   rw[gb f]
   by_cases d:(b.length:Int)<=(i:Int)
   .rw[fZ (b:=m0 1) (by unfold ui;rw[aC,bn,c6 f,aa,aC d]),aa,ft,hY (show b.length<=i by omega)]
    rfl
   .have j:i<b.length:=by omega
    rw[gb j];unfold iH;have c:ui LC a b (i:Int)=bif c5 (kG a[i] b[i]≠0) then c7 (Sum.inr (m0 (kG a[i] b[i]))) else c7 (m0 ((i:Int)+1)):=by
     unfold ui;rw[aC,bn,c6 f,aa,aG d,bn,c6 j,aa,G1,aa,aJ]
    unfold kG at c
    by_cases g:a[i]<b[i]
    .rw[if_pos g] at c⊢;rw[fZ (b:=m0 (-1)) (by rw[c];rfl)];rfl
    .rw[if_neg g] at c⊢
     by_cases h:b[i]<a[i]
     .rw[if_pos h] at c⊢;rw[fZ (b:=m0 1) (by rw[c];rfl)];rfl
     .rw[if_neg h] at c⊢;rw[iO (a':=((i+1:Nat):Int)) (by rw[c];rfl)];exact l (i+1) (by omega) (by omega)
 have:=r a.length 0 (by omega) (by omega);rw[k0,k0] at this;exact this
def SV:∀a:List Int,iH a a=0
 |[]=>rfl
 |b::a=>by unfold iH;rw[if_neg (by omega),if_neg (by omega)];exact SV a
def NH:∀h b f:List Int,iH h b<0->iH b f<0->iH h f<0
 |[],[],_,c,_=>by simp[iH] at c
 |[],_::_,[],_,c=>by simp[iH] at c
 |[],_::_,_::_,_,_=>by simp[iH]
 |_::_,[],_,c,_=>by simp[iH] at c
 |_::_,_::_,[],_,c=>by simp[iH] at c
 |j::h,d::b,z::f,e,a=>by
  unfold iH at e a⊢
  by_cases l:j<d
  .by_cases g:d<z
   .rw[if_pos (by omega)];decide
   .rw[if_neg g] at a
    by_cases i:z<d
    .rw[if_pos i] at a;omega
    .rw[if_pos (by omega)];decide
  .rw[if_neg l] at e
   by_cases g:d<j
   .rw[if_pos g] at e;omega
   .rw[if_neg g] at e
    by_cases i:d<z
    .rw[if_pos (by omega)];decide
    .rw[if_neg i] at a
     by_cases k:z<d
     .rw[if_pos k] at a;omega
     .rw[if_neg k] at a;rw[if_neg (by omega),if_neg (by omega)];exact NH h b f e a
structure mz (m:ak) (b:aL):Prop where
 fN:cP m
 num:1<=b.aA.length/\b.aA.length<=24
 len:∀w,w∈b.aA->(1<=w.aw.length/\w.aw.length<=12)/\w.aH.length=w.aw.length/\lz w.aw
 perm:∀w w',w∈b.aA->w'∈b.aA->dQ w.aw=dQ w'.aw
 asc:∀i w w',b.aA[i]?=c7 w->b.aA[i+1]?=c7 w'->iH w.aw w'.aw<0
 ok:∀w,w∈b.aA->∀x,x∈w.aH->jK m x
def ah8{m:ak}{l:List aM}(q:Fit l):Ok (E5 LC l m) λb=>b=false->∀a,a∈l->jK m a:=by
 unfold E5 FJ;have i:∀a,∃b,n7 LC m a=c7 b/\(b=true->cP m/\jK m a):=λa=>OI m a
 let p:aM->Bool:=λa=>!(n7 LC m a).getD false
 have:=fF (l:=l) (P:=λc=>Ld LC c m) (p:=p) (f:=λd=>HW LC l m d) q (λc r=>by
  obtain⟨b,e,_⟩:=i c;show((n7 LC m c).bind λn=>c7 (!n))=c7 (!(n7 LC m c).getD false)
  rw[e];rfl) (λd=>rfl)
 rw[show(LC.loop (λd=>HW LC l m d) 0).bind _=_ from this,aa,gm];refine ae λh a o=>?_
 rw[m1] at h;have g:=h a o;obtain⟨b,e,k⟩:=i a;have j:p a= !b:=by show(!(n7 LC m a).getD false)=_;rw[e];rfl
 rw[j] at g;cases b with
 |true=>exact(k rfl).2
 |false=>exact absurd rfl g
def vB(m:ak)(b:aL)(u:gF b):Ok (p8 LC m b) λv=>v=true->mz m b:=by
 unfold p8;rw[ko,aa,cF,aa,lA,fh rfl,aa];refine aV (λ_=>ae λn=>by cases n) (λn=>?_)
 have O:cP m:=dv λj=>n (.inl j)
 have j:1<=(b.aA.length:Int)/\(b.aA.length:Int)<=24:=dv λj=>n (.inr j)
 have h0:b.aA[0]?=c7 (b.aA[0]'(by omega)):=c6 (by omega);have B:=dd (show 0<b.aA.length by omega);generalize b.aA[0]'(by omega)=t at h0 B;have J:aj b.aA 0=c7 t:=by rw[show(0:Int)=((0:Nat):Int) from rfl,bn];exact h0
 rw[J,aa];unfold qK;rw[aa,Iy (u.2 t B).tg,aa];refine aD (Q:=λw=>match w with | .inl _=>True | .inr _=>mz m b) ?_ λw F=>?_
 .refine di b.aA.length (λi s=>s=(i:Int)/\(∀c a,c<i->b.aA[c]?=c7 a->((1<=a.aw.length/\a.aw.length<=12)/\a.aH.length=a.aw.length/\lz a.aw)/\dQ a.aw=dQ t.aw/\(∀A,A∈a.aH->jK m A)/\∀d,0<c->b.aA[c -1]?=c7 d->iH d.aw a.aw<0)) _ (λi s z f=>?_) (λs f=>?_) _ ⟨rfl,λc a h=>by omega⟩
  .obtain⟨rfl,f⟩:=f;have g:b.aA[i]?=c7 b.aA[i]:=c6 z;have C:=dd z;generalize b.aA[i]=a at g C;have r:=u.2 a C;unfold Fm;rw[aC,bn,g,aa,cF,aa,O6 r.tg,aa,lA,ew rfl,fh rfl,aa];refine aV (λ_=>ae trivial) (λo=>?_)
   unfold qK;rw[aa,Iy r.tg,aa,GV (by show(dQ a.aw).length<=_;rw[uP];have:=jZ r.tg;omega),aa,de];refine aV (λp=>?_) (λ_=>ae trivial)
   have T:Ok (bif c5 (0<(i:Int)) then(aj b.aA (c3 c4 ((i:Int) -1))).bind λP=>(sL LC P.aw a.aw).bind λE=>c7 (c5 (0<=E)) else c7 false) λv=>v=false->∀d,0<i->b.aA[i -1]?=c7 d->iH d.aw a.aw<0:=by
    refine aV (λN=>?_) (λN=>ae λ_ d X=>by omega)
    have y:b.aA[i -1]?=c7 (b.aA[i -1]'(by omega)):=c6 (by omega);have x:=dd (show i -1<b.aA.length by omega);generalize b.aA[i -1]'(by omega)=v at y x;rw[aJ,show(i:Int) -1=((i -1:Nat):Int) by omega,bn,y,aa,PW (u.2 v x).tg,aa];refine ae λM d _ e=>?_
    injection e with e
    subst e;have:=of_decide_eq_false M;omega
   refine aD T λV L=>?_
   refine dy (λ_=>ae trivial) (λI=>?_)
   refine aD (ah8 (l:=a.aH) (m:=m) (by show a.aH.length<=_;have:=jZ r.wh;omega)) λW G=>?_
   refine dy (λ_=>ae trivial) (λD=>?_)
   rw[aJ];refine ae ⟨rfl,λc d h e=>?_⟩
   by_cases k:c=i
   .subst k;rw[g] at e;injection e with e
    subst e;refine⟨⟨?_,?_,dv λj=>o (.inr (.inr j))⟩,p,G D,λd K R=>L I d K R⟩
    .have:1<=(a.aw.length:Int)/\(a.aw.length:Int)<=12:=dv λj=>o (.inl j)
     omega
    .have:(a.aH.length:Int)=a.aw.length:=dv λj=>o (.inr (.inl j))
     omega
   .exact f c d (by omega) e
  .obtain⟨rfl,f⟩:=f;unfold Fm;rw[aG];have q:∀a,a∈b.aA->∃c,c<b.aA.length/\b.aA[c]?=c7 a:=λa g=>by
    obtain⟨c,h,rfl⟩:=e5.1 g;exact⟨c,h,c6 h⟩
   refine ae ⟨O,by omega,λa g=>?_,λa d g e=>?_,λi a d o p=>?_,λa g=>?_⟩
   .obtain⟨c,h,k⟩:=q a g;exact(f c a h k).1
   .obtain⟨c,h,k⟩:=q a g;obtain⟨S,U,H⟩:=q d e;exact(f c a h k).2.1.trans (f S d U H).2.1.symm
   .exact(f (i+1) d (dt.1 p).1 p).2.2.2 a (by omega) (by rw[show i+1 -1=i by omega];exact o)
   .obtain⟨c,h,k⟩:=q a g;exact(f c a h k).2.2.1
 .cases w with
  |inl _=>exact ae λn=>by cases n
  |inr _=>exact ae λ_=>F
def mz.lt{m:ak}{b:aL}(h:mz m b):∀{i a:Nat} {d c:ay},i<a->b.aA[i]?=c7 d->b.aA[a]?=c7 c->iH d.aw c.aw<0:=by
 intro i a d c t o j
 induction a generalizing c with
 |zero=>omega
 |succ a n=>
  have s:a<b.aA.length:=by have:=(dt.1 j).1;omega
  have e:=c6 s;have k:=h.asc a _ c e j
  by_cases l:i=a
  .subst l;rw[o] at e;injection e with e
   rw[e];exact k
  .exact NH _ _ _ (n (by omega) e) k
def Fb{e:Type}[DecidableEq e]:∀(c a:List e),c.Nodup->(∀b,b∈c->b∈a)->c.length<=a.length
 |[],a,_,_=>p0 _
 |b::c,a,d,f=>by
  rw[List.nodup_cons] at d;have i:=Fb c (a.erase b) d.2 λj h=>(List.mem_erase_of_ne (λk=>d.1 (by rw[<-k];exact h))).2 (f j (by simp[h]))
  have g:=f b (by simp);rw[List.length_erase_of_mem g] at i;have:=List.length_pos_of_mem g;simp only[ey];omega
def aqu(a h:List Int)(n:a.length<=3)(f:h.Perm a):h∈[[a.getD 0 0,a.getD 1 0,a.getD 2 0].take a.length,[a.getD 0 0,a.getD 2 0,a.getD 1 0].take a.length,[a.getD 1 0,a.getD 0 0,a.getD 2 0].take a.length,[a.getD 1 0,a.getD 2 0,a.getD 0 0].take a.length,[a.getD 2 0,a.getD 0 0,a.getD 1 0].take a.length,[a.getD 2 0,a.getD 1 0,a.getD 0 0].take a.length]:=by
 match a,n with
 |[],_=>rw[f.eq_nil];simp
 |[d],_=>rw[hU.1 f];simp
 |[d,b],_=>
  have i:=f.length_eq
  match h,i with
  |[c,e],_=>
   have l:c=d\/c=b:=by simpa using f.mem_iff.1 (show c∈[c,e] by simp)
   rcases l with rfl |rfl
   .have:=hU.1 (hD f);injection this with this
    subst this;simp
   .have:=hU.1 (hD (f.trans (k6 c d [])));injection this with this
    subst this;simp
 |[d,b,g],_=>
  have i:=f.length_eq
  match h,i with
  |[c,e,z],_=>
   have l:c=d\/c=b\/c=g:=by simpa using f.mem_iff.1 (show c∈[c,e,z] by simp)
   have j:∀p q:Int,[e,z].Perm [p,q]->(e=p/\z=q)\/(e=q/\z=p):=λp q k=>by
    have o:e=p\/e=q:=by simpa using k.mem_iff.1 (show e∈[e,z] by simp)
    rcases o with rfl |rfl
    .have:=hU.1 (hD k);injection this with this
     exact .inl ⟨rfl,this⟩
    .have:=hU.1 (hD (k.trans (k6 e p [])));injection this with this
     exact .inr ⟨rfl,this⟩
   rcases l with rfl |rfl |rfl
   .rcases j b g (hD f) with⟨rfl,rfl⟩ |⟨rfl,rfl⟩ <;> simp
   .rcases j d g (hD (f.trans (k6 c d [g]))) with⟨rfl,rfl⟩ |⟨rfl,rfl⟩ <;> simp
   .have m:[d,b,c].Perm [c,d,b]:=((k6 c b []).cons d).trans (k6 c d [b]);rcases j d b (hD (f.trans m)) with⟨rfl,rfl⟩ |⟨rfl,rfl⟩ <;> simp
def F9{a b:List Int}(c:dQ a=dQ b):a.Perm b:=(uK a).symm.trans (c▸uK b)
def mz.Mp{m:ak}{b:aL}(h:mz m b){a:ay}(h0:a∈b.aA)(n:a.aw.length<=3):b.aA.length<=6:=by
 have e:(b.aA.map (·.aw)).length=b.aA.length:=ez _;rw[<-e];refine hz (Fb _ _ ?_ (λl o=>?_)) (Nat.le_of_eq (?_:List.length [[a.aw.getD 0 0,a.aw.getD 1 0,a.aw.getD 2 0].take a.aw.length,[a.aw.getD 0 0,a.aw.getD 2 0,a.aw.getD 1 0].take a.aw.length,[a.aw.getD 1 0,a.aw.getD 0 0,a.aw.getD 2 0].take a.aw.length,[a.aw.getD 1 0,a.aw.getD 2 0,a.aw.getD 0 0].take a.aw.length,[a.aw.getD 2 0,a.aw.getD 0 0,a.aw.getD 1 0].take a.aw.length,[a.aw.getD 2 0,a.aw.getD 1 0,a.aw.getD 0 0].take a.aw.length]=6))
 .refine h7.2 λi s hi c k he=>?_
  rw[ez] at hi c;rw[oi,oi] at he;have:=h.lt k (c6 hi) (c6 c);rw[he,SV] at this;omega
 .obtain⟨d,j,rfl⟩:=j9.1 o;exact aqu _ _ n (F9 (h.perm d a j h0))
 .rfl
def IH(e:aM->aM->Prop)(d:Int)(a f:ay):Prop:=∃(i:Nat) (c b:aM),a.aw[i]?=c7 d/\a.aH[i]?=c7 c/\e c b/\f=⟨a.aw,a.aH.set i b⟩
structure kz (R:aM->aM->Prop) (C:aM->Prop) (tag:Int) (l l':List ay):Prop where
 len:l'.length<=l.length
 from_:∀w',w'∈l'->∃w,w∈l/\IH R tag w w'
 b9:∀w,w∈l->(∃w',w'∈l'/\IH R tag w w')\/∃(i:Nat) (x:aM),w.aw[i]?=c7 tag/\w.aH[i]?=c7 x/\C x
def kz.more{e:aM->aM->Prop}{C:aM->Prop}{tag:Int}{l n:List ay}(h:kz e C tag l n){d j:ay}(o:IH e tag d j):kz e C tag (l++[d]) (n++[j]):=by
 refine⟨by have:=h.len;simp;omega,λv a=>?_,λv a=>?_⟩
 .rcases e4.1 a with a |a
  .obtain⟨k,c,m⟩:=h.from_ v a;exact⟨k,by simp[c],m⟩
  .rw[e0] at a;subst a;exact⟨d,by simp,o⟩
 .rcases e4.1 a with a |a
  .rcases h.b9 v a with⟨k,c,m⟩ |s
   .exact .inl ⟨k,by simp[c],m⟩
   .exact .inr s
  .rw[e0] at a;subst a;exact .inl ⟨j,by simp,o⟩
def kz.drop{e:aM->aM->Prop}{C:aM->Prop}{tag:Int}{l d:List ay}(h:kz e C tag l d){c:ay}{i:Nat}{x:aM}(k:c.aw[i]?=c7 tag)(m:c.aH[i]?=c7 x)(n:C x):kz e C tag (l++[c]) d:=by
 refine⟨by have:=h.len;simp;omega,λv a=>?_,λv a=>?_⟩
 .obtain⟨o,j,s⟩:=h.from_ v a;exact⟨o,by simp[j],s⟩
 .rcases e4.1 a with a |a
  .exact h.b9 v a
  .rw[e0] at a;subst a;exact .inr ⟨i,x,k,m,n⟩
structure oG (R:aM->aM->Prop) (C:aM->Prop) (m:ak) (tag:Int) (b b':aL):Prop where
 v:mz m b
 ne:b'.aA≠[]
 n:kz R C tag b.aA b'.aA
def OX{b:List Int}{a:Int}(f:a∈b):∃i:Nat,gg (λc=>c5 (a=c)) b=(i:Int)/\b[i]?=c7 a:=by
 have h0:0<=gg (λc=>c5 (a=c)) b:=Aw.2 ⟨a,f,decide_eq_true rfl⟩;obtain⟨i,h,d,e,g,_⟩:=HN h0;refine⟨i,d,?_⟩
 rw[e,of_decide_eq_true g]
def iE{b:Type}{a:List b}{i:Nat}{c:b}(d:a[i]?=c7 c):a.take (i+1)=a.take i++[c]:=by
 rw[o4,d];rfl
def LG(g:ak)(b:aL)(m:Int)(e:List Int)(a f:Int)(B:gF b)(Y:Fit e)(ad:Fit g.ai):Ok (CS LC g b m e a f) λq=>(q.2=0/\oG (λc d=>d=c\/lG g c e a f d) (λc=>c.aa0<=a/\∀p,p∈e->f<fn c.an p) g m b q.1)\/(q.2≠0/\q.1=b):=by
 unfold CS;refine aD (Q:=λr=>(r.2.2.2.2.2.2=0/\oG (λc d=>d=c\/lG g c e a f d) (λc=>c.aa0<=a/\∀p,p∈e->f<fn c.an p) g m b r.2.2.2.2.2.1)\/(r.2.2.2.2.2.2≠0/\r.2.2.2.2.2.1=b)) ?_ λr X=>ae X
 unfold I3;refine aD (vB g b B) λv T=>?_
 rw[de];refine dy (λK=>?_) (λ_=>ae (.inr ⟨by simp,rfl⟩))
 have x:=T K;have ah:=x.num;have h0:b.aA[0]?=c7 (b.aA[0]'(by omega)):=c6 (by omega);have D:=dd (show 0<b.aA.length by omega);generalize b.aA[0]'(by omega)=t at h0 D;have V:aj b.aA 0=c7 t:=by rw[show(0:Int)=((0:Nat):Int) from rfl,bn];exact h0
 rw[V,aa,contains_eq (by show t.aw.length<=_;have:=jZ (B.2 t D).tg;omega),aa,de];refine aV (λP=>?_) (λ_=>ae (.inr ⟨by simp,rfl⟩))
 refine aD (Q:=λk=>match k with
  | .inl k=>k.2.2.2.2.2.2≠0/\aL.mk k.2.2.2.2.2.1=b
  | .inr k=>kz (λc d=>d=c\/lG g c e a f d) (λc=>c.aa0<=a/\∀p,p∈e->f<fn c.an p) m b.aA k.2.2.2.2.2) ?_ λk G=>?_
 .refine di b.aA.length (λi z=>∃out,z=(g.ai,g.af,e,a,f,out,(i:Int))/\kz (λc d=>d=c\/lG g c e a f d) (λc=>c.aa0<=a/\∀p,p∈e->f<fn c.an p) m (b.aA.take i) out) _ (λi z H C=>?_) (λz C=>?_) _ ⟨[],rfl,⟨by simp,λai n=>(by cases n),λh n=>(by simp at n)⟩⟩
  .obtain⟨out,rfl,o⟩:=C;have u:b.aA[i]?=c7 b.aA[i]:=c6 H;have y:=dd H;generalize b.aA[i]=h at u y;have ab:=B.2 h y;have ag:=x.len h y;have L:m∈h.aw:=(F9 (x.perm h t y D)).mem_iff.2 P;obtain⟨l,U,A⟩:=OX L;have ac:l<h.aH.length:=by have:=(dt.1 A).1;omega
   have s:h.aH[l]?=c7 h.aH[l]:=c6 ac;generalize h.aH[l]=c at s;have al:out.length<=24:=by have:=o.len;rw[ea] at this;omega
   dsimp only;unfold Gz;rw[aC,bn,u,aa,Bb (by show h.aw.length<=_;omega),U,aa,zK ab,aa];dsimp only;rw[bn,s,aa,dk,s,aa];unfold JT;obtain⟨q,I,R⟩:=afE g c e a f Y ad;have N:yX LC (ak.mk g.ai g.af) c e a f=c7 q:=I;rw[N,aa,aa];dsimp only;simp only[aa];have fin:∀d,(d=c\/lG g c e a f d)->kz (λc d=>d=c\/lG g c e a f d) (λc=>c.aa0<=a/\∀p,p∈e->f<fn c.an p) m (b.aA.take (i+1)) (out++[ay.mk h.aw (h.aH.set l d)]):=λd W=>by
    rw[iE u];exact o.more ⟨l,c,d,A,s,W,rfl⟩
   have E:∀w,w=h.aH.set l q.1\/w=h.aH.set l c->(q.1=c\/lG g c e a f q.1)->kz (λc d=>d=c\/lG g c e a f d) (λc=>c.aa0<=a/\∀p,p∈e->f<fn c.an p) m (b.aA.take (i+1)) (out++[ay.mk h.aw w]):=λw M J=>by
    rcases M with rfl |rfl
    .exact fin _ J
    .exact fin _ (.inl rfl)
   rcases R with⟨j,Z⟩ |⟨j,F,S,af⟩ |⟨j,F⟩
   .rw[j];simp only[aa,decide_eq_true,decide_eq_false,Int.reduceEq,decide_false,decide_true,cond_true,cond_false,ft,ei];rw[dm (by decide) (by omega),aa,aJ];exact ae ⟨_,rfl,E _ (.inl rfl) (.inr Z)⟩
   .rw[j];simp only[aa,Int.reduceEq,decide_false,decide_true,cond_true,cond_false,ft,ei];rw[aJ];refine ae ⟨_,rfl,?_⟩
    rw[iE u];exact o.drop A s ⟨S,af⟩
   .rcases j with j |j |j
    .rw[j];simp only[aa,Int.reduceEq,decide_false,decide_true,cond_true,cond_false,ft,ei];exact ae ⟨by simp,rfl⟩
    .rw[j];simp only[aa,Int.reduceEq,decide_false,decide_true,cond_true,cond_false,ft,ei];exact ae ⟨by simp,rfl⟩
    .rw[j];simp only[aa,Int.reduceEq,decide_false,decide_true,cond_true,cond_false,ft,ei];rw[dm (by decide) (by omega),aa,aJ];exact ae ⟨_,rfl,E _ (.inr (ou s).symm) (.inl F)⟩
  .obtain⟨out,rfl,o⟩:=C;dsimp only;unfold Gz;rw[aG];rw[gy] at o;exact ae o
 .cases k with
  |inl k=>exact ae (.inr G)
  |inr k=>
   dsimp only[ei];refine aV (λ_=>ae (.inr ⟨by simp,rfl⟩)) (λO=>ae (.inl ⟨rfl,x,λn=>O ?_,G⟩))
   have n:k.2.2.2.2.2=[]:=n;rw[n];rfl
def Sj(e:ak)(b:aL)(n:Int)(h:List Int)(a l k:Int)(z:gF b)(T:Fit h)(X:Fit e.ai):Ok (Bq LC e b n h a l k) λq=>(q.2=0/\oG (λc d=>d=c\/∃g,og e c h a l k d g) (λ_=>False) e n b q.1)\/(q.2≠0/\q.1=b):=by
 unfold Bq;refine aD (Q:=λr=>(r.2.2.2.2.2.2.2=0/\oG (λc d=>d=c\/∃g,og e c h a l k d g) (λ_=>False) e n b r.2.2.2.2.2.2.1)\/(r.2.2.2.2.2.2.2≠0/\r.2.2.2.2.2.2.1=b)) ?_ λr S=>ae S
 unfold Hu;refine aD (vB e b z) λv N=>?_
 rw[de];refine dy (λH=>?_) (λ_=>ae (.inr ⟨by simp,rfl⟩))
 have w:=N H;have ab:=w.num;have h0:b.aA[0]?=c7 (b.aA[0]'(by omega)):=c6 (by omega);have C:=dd (show 0<b.aA.length by omega);generalize b.aA[0]'(by omega)=u at h0 C;have P:aj b.aA 0=c7 u:=by rw[show(0:Int)=((0:Nat):Int) from rfl,bn];exact h0
 rw[P,aa,contains_eq (by show u.aw.length<=_;have:=jZ (z.2 u C).tg;omega),aa,de];refine aV (λL=>?_) (λ_=>ae (.inr ⟨by simp,rfl⟩))
 refine aD (Q:=λj=>match j with
  | .inl j=>j.2.2.2.2.2.2.2≠0/\aL.mk j.2.2.2.2.2.2.1=b
  | .inr j=>kz (λc d=>d=c\/∃g,og e c h a l k d g) (λ_=>False) n b.aA j.2.2.2.2.2.2) ?_ λj E=>?_
 .refine di b.aA.length (λi y=>∃out,y=(e.ai,e.af,h,a,l,k,out,(i:Int))/\kz (λc d=>d=c\/∃g,og e c h a l k d g) (λ_=>False) n (b.aA.take i) out) _ (λi y F A=>?_) (λy A=>?_) _ ⟨[],rfl,⟨by simp,λac o=>(by cases o),λf o=>(by simp at o)⟩⟩
  .obtain⟨out,rfl,s⟩:=A;have B:b.aA[i]?=c7 b.aA[i]:=c6 F;have x:=dd F;generalize b.aA[i]=f at B x;have V:=z.2 f x;have Z:=w.len f x;have I:n∈f.aw:=(F9 (w.perm f u x C)).mem_iff.2 L;obtain⟨p,O,D⟩:=OX I;have W:p<f.aH.length:=by have:=(dt.1 D).1;omega
   have t:f.aH[p]?=c7 f.aH[p]:=c6 W;generalize f.aH[p]=c at t;have ad:out.length<=24:=by have:=s.len;rw[ea] at this;omega
   dsimp only;unfold Fl;rw[aC,bn,B,aa,Bb (by show f.aw.length<=_;omega),O,aa,zK V,aa];dsimp only;rw[bn,t,aa,dk,t,aa];unfold Io;obtain⟨q,G,M⟩:=aaS e c h a l k T X;have J:wV LC (ak.mk e.ai e.af) c h a l k=c7 q:=G;rw[J,aa,aa];dsimp only;simp only[aa];have fin:∀d,(d=c\/∃g,og e c h a l k d g)->kz (λc d=>d=c\/∃g,og e c h a l k d g) (λ_=>False) n (b.aA.take (i+1)) (out++[ay.mk f.aw (f.aH.set p d)]):=λd R=>by
    rw[iE B];exact s.more ⟨p,c,d,D,t,R,rfl⟩
   rcases M with⟨m,U⟩ |⟨m,Y⟩
   .rw[m];simp only[aa,Int.reduceEq,decide_false,decide_true,cond_true,cond_false,ft,ei];rw[dm (by decide) (by omega),aa,aJ];exact ae ⟨_,rfl,fin _ (U.elim .inr .inl)⟩
   .rcases m with m |m |m
    .rw[m];simp only[aa,Int.reduceEq,decide_false,decide_true,cond_true,cond_false,ft,ei];exact ae ⟨by simp,rfl⟩
    .rw[m];simp only[aa,Int.reduceEq,decide_false,decide_true,cond_true,cond_false,ft,ei];exact ae ⟨by simp,rfl⟩
    .rw[m];simp only[aa,Int.reduceEq,decide_false,decide_true,cond_true,cond_false,ft,ei];rw[dm (by decide) (by omega),aa,aJ];refine ae ⟨_,rfl,?_⟩
     have:=fin c (.inl rfl);rw[ou t] at this;exact this
  .obtain⟨out,rfl,s⟩:=A;dsimp only;unfold Fl;rw[aG];rw[gy] at s;exact ae s
 .cases j with
  |inl j=>exact ae (.inr E)
  |inr j=>
   dsimp only[ei];refine aV (λ_=>ae (.inr ⟨by simp,rfl⟩)) (λK=>ae (.inl ⟨rfl,w,λo=>K ?_,E⟩))
   have o:j.2.2.2.2.2.2=[]:=o;rw[o];rfl
def swap_perm{b:Type}{a:List b}{i d:Nat}{c e:b}(j:a[i]?=c7 c)(h:a[d]?=c7 e):((a.set i e).set d c).Perm a:=by
 obtain⟨f,rfl⟩:=dt.1 j;obtain⟨g,rfl⟩:=dt.1 h;exact List.set_set_perm f g
def aaP(d:List ay)(u:∀m,m∈d->Sm m.aw)(C:d.length<=19):Ok (xn LC d 0 (d.length:Int)) λr=>r.Perm d:=by
 unfold xn;rw[aJ];refine aD (Q:=λr=>r.Perm d) ?_ λr k=>ae k
 refine oa (λb:List ay×Int=>b.1.Perm d/\1<=b.2) (λb=>(20 -b.2).toNat) _ (λb j=>?_) _ ⟨.refl _,by simp⟩
 obtain⟨aK,i⟩:=b;obtain⟨e,x⟩:=j;dsimp only at e x⊢;unfold Sx;refine aV (λy=>?_) (λ_=>ae e)
 refine aD (Q:=λr=>r.Perm d) ?_ λr k=>?_
 .refine oa (λb:List ay×Int=>b.1.Perm d/\0<=b.2/\b.2<(d.length:Int)) (λb=>b.2.toNat) _ (λb j=>?_) _ ⟨e,by show(0:Int)<=i;omega,y⟩
  obtain⟨c,a⟩:=b;obtain⟨e,t,v⟩:=j;dsimp only at e t v⊢;have B:=e.length_eq;unfold Mg
  by_cases o:0<a
  rotate_left
  .rw[aG o];exact ae e
  have f:c[a.toNat]?=c7 (c[a.toNat]'(by omega)):=c6 (by omega);have h:c[(a -1).toNat]?=c7 (c[(a -1).toNat]'(by omega)):=c6 (by omega);have l:=dd (show a.toNat<c.length by omega);generalize c[a.toNat]'(by omega)=p at f l;generalize c[(a -1).toNat]'(by omega)=g at h;have q:aj c a=c7 p:=by unfold aj;rw[if_pos (by omega)];exact f
  have A:aj c (a -1)=c7 g:=by unfold aj;rw[if_pos (by omega)];exact h
  have w:=u p (e.mem_iff.1 l);rw[aC o,aJ (n:=a -1),q,aa,f,aa,A,aa,h,aa];unfold IK;rw[PW w];simp only[aa];refine aV (λ_=>?_) (λ_=>ae e)
  have s:(a -1).toNat<(c.set a.toNat g).length:=by rw[dT];omega
  have z:aj (c.set a.toNat g) (a -1)=c7 ((c.set a.toNat g)[(a -1).toNat]):=qC (by omega) (by rw[dT];omega);rw[z,aa,c6 s,aa];refine ae ⟨⟨(swap_perm f h).trans e,by show 0<=a -1;omega,by show a -1<_;omega⟩,?_⟩
  show(a -1).toNat<a.toNat
  omega
 .rw[aJ];refine ae ⟨⟨k,by show 1<=i+1;omega⟩,?_⟩
  show(20 - (i+1)).toNat<(20 -i).toNat
  omega
def aoi(a:List ay)(h:∀c,c∈a->Sm c.aw)(d:a.length<=19):Ok (uv LC a) λr=>r.Perm a:=by
 unfold uv FQ JY GP Je;rw[pr (by decide) (cX (n:=19) d (by decide)),aa,aa];have f:bO (λb:List ay×Int×Int=>zB LC (a.length:Int) b.1 b.2.1 b.2.2) (a,0,20)=c7 (a,0):=fZ (by dsimp only;unfold zB;rw[aG]);rw[show LC.loop (λb:List ay×Int×Int=>zB LC (a.length:Int) b.1 b.2.1 b.2.2) (a,0,20)=_ from f,aa];dsimp only;obtain⟨r,i,g⟩:=aaP a h d;rw[i,aa];have e:bO (λb:Int=>KH LC (a.length:Int) b) 20=c7 ():=fZ (by unfold KH;rw[aG]);rw[e];simp only[aa];exact ae g
def j0(c d:Nat)(a:ay):Prop:=a.aH.length=c/\∀b,b∈a.aH->b.an.length=d
def Over(e:Nat)(c d:ay):Prop:=d.aw=c.aw/\∀(i:Nat) b a,c.aH[i]?=c7 b->d.aH[i]?=c7 a->b.aa0<=a.aa0/\∀p,0<=p->p<(e:Int)->fn a.an p<=fn b.an p
def Over.refl(np:Nat)(c:ay):Over np c c:=⟨rfl,λi x d h a=>by rw[h] at a;injection a with a;subst a;exact⟨eH _,λ_ _ _=>eH _⟩⟩
structure rZ (n np:Nat) (l out:List ay):Prop where
 a:∀w,w∈l->∃w',w'∈out/\Over np w w'
 b:∀Pr:aM->Prop,(∀x y,x.an.length=np->y.an.length=np->Pr x->Pr y->Pr (ib x y))->(∀w,w∈l->∀x,x∈w.aH->Pr x)->∀w',w'∈out->∀x,x∈w'.aH->Pr x
 c:∀w',w'∈out->j0 n np w'/\∃w,w∈l/\w'.aw=w.aw
 d:out.length<=l.length
 e:l≠[]->out≠[]
def oB(a b:ay):ay:=⟨a.aw,ef ib a.aH b.aH⟩
def acE{c b:aM}{a:Nat}(e:c.an.length=a)(d:b.an.length=a):(ib c b).an.length=a:=by
 show(ef min c.an b.an).length=a
 rw[ga];omega
def ake{c d:Nat}{b a:ay}(f:j0 c d b)(e:j0 c d a):j0 c d (oB b a):=by
 refine⟨by show(ef ib b.aH a.aH).length=c;rw[ga,f.1,e.1];omega,λg h=>?_⟩
 obtain⟨i,j,rfl⟩:=e5.1 (show g∈ef ib b.aH a.aH from h);rw[ga] at j;rw[hS];exact acE (f.2 _ (dd (by omega))) (e.2 _ (dd (by omega)))
def FB{d a:ay}{i:Nat}{c:aM}(b:(oB d a).aH[i]?=c7 c):∃f g,d.aH[i]?=c7 f/\a.aH[i]?=c7 g/\c=ib f g:=by
 have b:(ef ib d.aH a.aH)[i]?=c7 c:=b;obtain⟨h,e⟩:=dt.1 b;rw[ga] at h;rw[hS] at e;exact⟨_,_,c6 (by omega),c6 (by omega),e.symm⟩
def amz{m b:Nat}{u e c:ay}(l:j0 m b e)(o:j0 m b c)(w:e.aw=c.aw):(Over b u e->Over b u (oB e c))/\Over b c (oB e c):=by
 refine⟨λr=>⟨r.1,λi d v h j=>?_⟩,⟨w,λi d v h j=>?_⟩⟩
 .obtain⟨p,q,f,a,rfl⟩:=FB j;obtain⟨x,t⟩:=r.2 i d p h f;have k:=l.2 p (fC f);have g:=o.2 q (fC a);refine⟨by show d.aa0<=max p.aa0 q.aa0;omega,λn h0 s=>?_⟩
  rw[PL (k.trans g.symm) h0 (by omega)];have:=t n h0 s;omega
 .obtain⟨p,q,f,a,rfl⟩:=FB j;have k:=l.2 p (fC f);have g:=o.2 q (fC a);rw[h] at a;injection a with a
  subst a;refine⟨by show d.aa0<=max p.aa0 d.aa0;omega,λn h0 s=>?_⟩
  rw[PL (k.trans g.symm) h0 (by omega)];omega
def agQ{n e:Nat}{a b:ay}(v:n<=100)(o:e<=1000000)(g:j0 n e a)(d:j0 n e b):bO (λc:List aM×Int=>qR LC b.aH c.1 c.2) (a.aH,0)=c7 (ef ib a.aH b.aH):=by
 have q:(ef ib a.aH b.aH).length=n:=by rw[ga,g.1,d.1];omega
 have t:=nV (f:=λc:List aM×Int=>qR LC b.aH c.1 c.2) n (λi=>((ef ib a.aH b.aH).take i++a.aH.drop i,(i:Int))) (ef ib a.aH b.aH) (λi k=>?_) (by
  dsimp only;unfold qR;rw[aG (by rw[d.1];omega),hM (by omega),hY (by rw[g.1];omega),p4])
 .simpa using t
 .dsimp only;unfold qR;have h:i<a.aH.length:=by rw[g.1];exact k
  have j:i<b.aH.length:=by rw[d.1];exact k
  have l:((ef ib a.aH b.aH).take i).length=i:=by rw[ea,q];omega
  have p:((ef ib a.aH b.aH).take i++a.aH.drop i)[i]?=c7 a.aH[i]:=by
   rw[eE (by omega),l,j8,gb h];rfl
  have u:=g.2 _ (dd h);have r:=d.2 _ (dd j);rw[aC (by rw[d.1];omega),bn,p,aa,bn,c6 j,aa,join_eq (u.trans r.symm) (cX (n:=e) (by omega) o),aa,aJ];have m:(ef ib a.aH b.aH)[i]?=c7 (ib a.aH[i] b.aH[i]):=by
   rw[c6 (by omega),hS]
  have s:((ef ib a.aH b.aH).take i++a.aH.drop i).set (i:Int).toNat (ib a.aH[i] b.aH[i])=(ef ib a.aH b.aH).take (i+1)++a.aH.drop (i+1):=by
   rw[dk,k8 _ _ (by omega),l,j8,gb h,hX,iE m,hB]
   rfl
  dsimp only;rw[s]
  rfl
def QQ{n np:Nat}(P:n<=100)(M:np<=1000000)(A:List ay)(a:∀c,c∈A->j0 n np c/\Sm c.aw)(ah:A.length<=19):Ok (yK LC A) (rZ n np A):=by
 unfold yK;refine aD (aoi A (λc g=>(a c g).2) ah) λm s=>?_
 have am:=s.length_eq;have T:∀c,c∈m->j0 n np c/\Sm c.aw:=λc g=>a c (s.mem_iff.1 g)
 have af:∀c,j0 n np c->Sm c.aw->tz c:=λc e J=>⟨J,cX (n:=100) (by rw[e.1];exact P) (by decide),λx r=>cX (n:=np) (by rw[e.2 x r];omega) M⟩
 refine WI (Q:=rZ n np m) ?_ λout e=>⟨λc g=>e.a c (s.mem_iff.2 g),λw o l=>e.b w o λc g=>l c (s.mem_iff.1 g),λK y=>?_,by have:=e.d;omega,λY=>e.e λZ=>Y ?_⟩
 rotate_left
 .obtain⟨o,c,l,ak⟩:=e.c K y;exact⟨o,c,s.mem_iff.1 l,ak⟩
 .rw[Z] at s;exact List.nil_perm.1 s
 refine di m.length (λi E=>∃out,E=(out,(i:Int))/\rZ n np (m.take i) out/\∀c,c∈out->Sm c.aw) _ (λi E O H=>?_) (λE H=>?_) _ ⟨[],rfl,⟨λc g=>(by simp at g),λ_ _ _ K y=>(by cases y),λK y=>(by cases y),by simp,λe=>(by simp at e)⟩,λc g=>(by cases g)⟩
 .obtain⟨out,rfl,h,z⟩:=H;have g:m[i]?=c7 m[i]:=c6 O;have R:=dd O;generalize m[i]=c at g R;obtain⟨t,S⟩:=T c R;have an:out.length<=19:=by have:=h.d;rw[ea] at this;omega
  dsimp only;unfold lZ;rw[aC,bn,g,aa,iE g,aJ (n:=(i:Int)+1)];have new:Ok ((oM LC c).bind λW=>(bj 48 out [W]).bind λout=>c7 (m0 (out,(i:Int)+1))) λd:(List ay×Int)⊕List ay=>match d with
   | .inl ab=>∃out,ab=(out,((i+1:Nat):Int))/\rZ n np (m.take i++[c]) out/\∀c,c∈out->Sm c.aw
   | .inr b=>rZ n np m b:=by
   rw[Tz (af c t S),aa,dm (by decide) (by omega),aa];refine ae ⟨_,rfl,⟨λu a=>?_,λw o l u a x r=>?_,λu a=>?_,?_,λ_=>by simp⟩,λu a=>?_⟩
   .rcases e4.1 a with a |a
    .obtain⟨v,f,j⟩:=h.a u a;exact⟨v,by simp[f],j⟩
    .rw[e0] at a;subst a;exact⟨u,by simp,Over.refl _ _⟩
   .rcases e4.1 a with a |a
    .exact h.b w o (λv B=>l v (by simp[B])) u a x r
    .rw[e0] at a;subst a;exact l u (by simp) x r
   .rcases e4.1 a with a |a
    .obtain⟨v,f,j,I⟩:=h.c u a;exact⟨v,f,by simp[j],I⟩
    .rw[e0] at a;subst a;exact⟨t,u,by simp,rfl⟩
   .have:=h.d;simp only[eo,ey,hL] at this⊢;omega
   .rcases e4.1 a with a |a
    .exact z u a
    .rw[e0] at a;subst a;exact S
  rcases List.eq_nil_or_concat out with U |⟨init,d,k⟩
  .subst U;rw[aG (by simp),aa];exact WI new λd k=>by cases d <;> exact k
  .rw[List.concat_eq_append] at k;have N:out.length=init.length+1:=by rw[k];simp
   have X:aj out (c3 c4 ((out.length:Int) -1))=c7 d:=by
    rw[aJ,N,show((init.length+1:Nat):Int) -1=(init.length:Int) by omega];exact jg (rest:=[]) k
   have C:d∈out:=by rw[k];simp
   obtain⟨D,ag,ad,ac⟩:=h.c d C;rw[aC,X,aa,GV (by show d.aw.length<=_;have:=jZ (z d C);omega),aa];refine aV (λJ=>?_) (λ_=>WI new λd k=>by cases d <;> exact k)
   rw[aa];refine c8 (agQ P M D t) ?_
   have ai:out.set (c3 c4 ((out.length:Int) -1)).toNat ({d with aH:=ef ib d.aH c.aH}:ay)=init++[oB d c]:=by
    rw[aJ,N,show(((init.length+1:Nat):Int) -1).toNat=init.length by omega,k,k8 _ _ (h8 _),j8]
    rfl
   rw[ai];have L:=λu=>amz (u:=u) D t J
   have F:∀{u:ay},u∈init++[oB d c]->u∈init\/u=oB d c:=λe=>by
    rcases e4.1 e with e |e
    .exact .inl e
    .exact .inr (by simpa using e)
   have G:∀u,u∈init->u∈out:=λu e=>by rw[k];simp[e]
   refine ae ⟨_,rfl,⟨λu a=>?_,λw o l u a x r=>?_,λu a=>?_,?_,λ_=>by simp⟩,λu a=>?_⟩
   .rcases e4.1 a with a |a
    .obtain⟨v,f,j⟩:=h.a u a;rw[k] at f;rcases e4.1 f with f |f
     .exact⟨v,by simp[f],j⟩
     .rw[e0] at f;subst f;exact⟨oB v c,by simp,(L u).1 j⟩
    .rw[e0] at a;subst a;exact⟨oB d u,by simp,(L u).2⟩
   .rcases F a with a |rfl
    .exact h.b w o (λv B=>l v (by simp[B])) u (G u a) x r
    .obtain⟨al,V⟩:=hP.1 r;obtain⟨p,q,f,j,rfl⟩:=FB V;exact o p q (D.2 p (fC f)) (t.2 q (fC j)) (h.b w o (λv B=>l v (by simp[B])) d C p (fC f)) (l c (by simp) q (fC j))
   .rcases F a with a |rfl
    .obtain⟨v,f,j,I⟩:=h.c u (G u a);exact⟨v,f,by simp[j],I⟩
    .exact⟨ake D t,ag,by simp[ad],ac⟩
   .have:=h.d;simp only[eo,ey,hL] at this⊢;omega
   .rcases F a with a |rfl
    .exact z u (G u a)
    .exact z d C
 .obtain⟨out,rfl,h,z⟩:=H;dsimp only;unfold lZ;rw[aG];rw[gy] at h;exact ae h
def kH(i b:Int)(a:List aM):List aM:=match a[i.toNat]? with |some c=>if b<c.aa0\/2147483648<b then a else a.set i.toNat ⟨b,c.an⟩ |none=>a
def rU(i b a:Int)(c:ay):ay:=⟨gL i b c.aw,kH b a (kH i a c.aH)⟩
def ID{i b:Int}{a:List aM}:(kH i b a).length=a.length:=by
 unfold kH
 split
 .split
  .rfl
  .rw[dT]
 .rfl
def F3{i d:Int}{j:List aM}{g:Nat}{b:aM}(a:(kH i d j)[g]?=c7 b):∃e,j[g]?=c7 e/\b.an=e.an/\e.aa0<=b.aa0/\(b.aa0=e.aa0\/b.aa0=d)/\((g:Int)=i->d<=2147483648->d<=b.aa0):=by
 unfold kH at a;cases c:j[i.toNat]? with
 |none=>
  rw[c] at a;refine⟨b,a,rfl,eH _,.inl rfl,λf=>?_⟩
  subst f;rw[dk] at c;rw[c] at a;cases a
 |some k=>
  rw[c] at a;dsimp only at a
  split at a
  .rename_i l;refine⟨b,a,rfl,eH _,.inl rfl,λf m=>?_⟩
   subst f;rw[dk] at c;rw[c] at a;injection a with a
   subst a;omega
  .rename_i l;rw[hI] at a
   split at a
   .rename_i h
    split at a
    .injection a with a
     subst a;refine⟨k,by rw[<-h];exact c,rfl,by show k.aa0<=d;omega,.inr rfl,λ_ _=>eH _⟩
    .cases a
   .rename_i h;exact⟨b,a,rfl,eH _,.inl rfl,λf=>absurd (by omega) h⟩
def NG{i d:Int}{a:List aM}(n:0<=i/\i<(a.length:Int))(m:∀b,b∈a->Sm b.an){l:Type}{h:List aM->Option l}:((aj a i).bind λ_=>(a[i.toNat]?).bind λk=>(xc LC k d).bind λj=>
 (bif c5 (j.2=0) then(aj a i).bind λ_=>(a[i.toNat]?).bind λ_=>c7 (a.set i.toNat j.1) else c7 a).bind h)=h (kH i d a):=by
 have e:a[i.toNat]?=c7 (a[i.toNat]'(by omega)):=c6 (by omega);have f:=dd (show i.toNat<a.length by omega);unfold kH;generalize a[i.toNat]'(by omega)=b at e f;have g:aj a i=c7 b:=by unfold aj;rw[if_pos n.1];exact e
 rw[g,e];simp only[aa];rw[acF (m b f),aa]
 by_cases c:d<b.aa0\/2147483648<d
 .rw[if_pos c,if_pos c];rfl
 .rw[if_neg c,if_neg c];rfl
structure AY (m:ak) (i j t:Int) (n np:Nat) (b b':aL):Prop where
 v:mz m b
 num:b'.aA.length<=24
 ix:(0<=i/\i<(n:Int))/\(0<=j/\j<(n:Int))/\i≠j/\0<=t/\t<=2147483648
 ex:∃l,rZ n np l b'.aA/\l≠[]/\(∀w,w∈b.aA->w∈l)/\(∀w x y,w∈b.aA->w.aH[i.toNat]?=c7 x->w.aH[j.toNat]?=c7 y->(∃p,p∈dz x t/\p∈dz y t)->rU i j t w∈l)/\∀u,u∈l->u∈b.aA\/∃w,w∈b.aA/\u=rU i j t w
def RM(L:ak)(b:aL)(i c h:Int){n np:Nat}(a5:n<=3)(a1:np<=64)(D:gF b)(x:∀a,a∈b.aA->j0 n np a/\a.aw.length=n):Ok (yY LC L b i c h) λq=>(q.2=0/\AY L i c h n np b q.1)\/(q.2≠0/\q.1=b):=by
 unfold yY;refine aD (vB L b D) λv ah=>?_
 rw[de];refine dy (λad=>?_) (λ_=>ae (.inr ⟨by simp,rfl⟩))
 have R:=ah ad;have a3:=R.num;have h0:b.aA[0]?=c7 (b.aA[0]'(by omega)):=c6 (by omega);have A:=dd (show 0<b.aA.length by omega);generalize b.aA[0]'(by omega)=V at h0 A;have ai:aj b.aA 0=c7 V:=by rw[show(0:Int)=((0:Nat):Int) from rfl,bn];exact h0
 have au:=(x V A).2;have aY:=R.Mp A (by omega);rw[ai,aa,au,aJ (n:=(n:Int) -1),cF,aa,cF,aa,fh (fh rfl),aa];refine aV (λ_=>ae (.inr ⟨by simp,rfl⟩)) (λa2=>?_)
 rw[cF,aa,de];refine aV (λav=>?_) (λ_=>ae (.inr ⟨by simp,rfl⟩))
 have P:0<=i/\i<(n:Int):=by omega
 have G:0<=c/\c<(n:Int):=by omega
 have aw:i≠c:=by omega
 unfold Ke;rw[pr (by decide) D.1,aa];refine aD (Q:=λg=>g.length<=12/\(∀a,a∈b.aA->a∈g)/\(∀a k l,a∈b.aA->a.aH[i.toNat]?=c7 k->a.aH[c.toNat]?=c7 l->(∃p,p∈dz k h/\p∈dz l h)->rU i c h a∈g)/\∀e,e∈g->e∈b.aA\/∃a,a∈b.aA/\e=rU i c h a) ?_ λg al=>?_
 .refine di b.aA.length (λm o=>∃g,o=(g,(m:Int))/\g.length<=6+m/\(∀a,a∈b.aA->a∈g)/\(∀a k l,a∈b.aA.take m->a.aH[i.toNat]?=c7 k->a.aH[c.toNat]?=c7 l->(∃p,p∈dz k h/\p∈dz l h)->rU i c h a∈g)/\∀e,e∈g->e∈b.aA\/∃a,a∈b.aA/\e=rU i c h a) _ (λm o I T=>?_) (λo T=>?_) _ ⟨b.aA,rfl,by omega,λa j=>j,λa k l j=>(by simp at j),λe j=>.inl j⟩
  .obtain⟨g,rfl,aB,C,u,H⟩:=T;have O:b.aA[m]?=c7 b.aA[m]:=c6 I;have B:=dd I;generalize b.aA[m]=a at O B;have t:=D.2 a B;obtain⟨aP,aU⟩:=x a B;have a4:=aP.1;have M:a.aH[i.toNat]?=c7 (a.aH[i.toNat]'(by omega)):=c6 (by omega);have N:a.aH[c.toNat]?=c7 (a.aH[c.toNat]'(by omega)):=c6 (by omega);have W:=dd (show i.toNat<a.aH.length by omega);have X:=dd (show c.toNat<a.aH.length by omega);generalize a.aH[i.toNat]'(by omega)=k at M W;generalize a.aH[c.toNat]'(by omega)=l at N X;have ay:aj a.aH i=c7 k:=by unfold aj;rw[if_pos P.1];exact M
   have aE:aj a.aH c=c7 l:=by unfold aj;rw[if_pos G.1];exact N
   dsimp only;unfold H9;rw[aC,bn,O,aa,ay,aa,aE,aa,Zn (t.fr k W) (t.fr l X),aa,de,aJ (n:=(m:Int)+1),iE O]
   by_cases J:∃p,p∈dz k h/\p∈dz l h
   rotate_left
   .rw[aG J,aa];refine ae ⟨g,rfl,by omega,C,λe K S d r s y=>?_,H⟩
    rcases e4.1 d with d |d
    .exact u e K S d r s y
    .rw[e0] at d;subst d;rw[M] at r;rw[N] at s;injection r with r;injection s with s
     subst r s;exact absurd y J
   rw[aC J,Zo t,aa];have E:a.aw[i.toNat]?=c7 (a.aw[i.toNat]'(by omega)):=c6 (by omega);have w:a.aw[c.toNat]?=c7 (a.aw[c.toNat]'(by omega)):=c6 (by omega);have U:gL i c a.aw=(a.aw.set i.toNat (a.aw[c.toNat]'(by omega))).set c.toNat (a.aw[i.toNat]'(by omega)):=by unfold gL;rw[E,w]
   generalize a.aw[i.toNat]'(by omega)=aI at E U;generalize a.aw[c.toNat]'(by omega)=F at w U;have ax:aj a.aw i=c7 aI:=by unfold aj;rw[if_pos P.1];exact E
   have aT:aj a.aw c=c7 F:=by unfold aj;rw[if_pos G.1];exact w
   have aS:c.toNat<(a.aw.set i.toNat F).length:=by rw[dT];omega
   have aF:aj (a.aw.set i.toNat F) c=c7 ((a.aw.set i.toNat F)[c.toNat]):=qC G.1 (by rw[dT];omega);dsimp only;rw[aT,aa,w,aa,ax,aa,E,aa,aa,aa,aF,aa,c6 aS,aa];have ar:bO (λo:List aM×Int=>tC LC i c h o.1 o.2) (a.aH,0)=c7 (kH c h (kH i h a.aH)):=by
    refine akO (f:=λaH az=>tC LC i c h aH az) (λb g=>if b then kH c h g else kH i h g) a.aH ?_ ?_ (λo=>?_)
    .unfold tC;rw[aC (by decide),show aj ([i,c]:List Int) 0=c7 i from rfl,aa];refine(NG (by omega) t.fr).trans ?_
     rfl
    .simp only[j5,if_false,if_true];unfold tC;rw[aC (by decide),show aj ([i,c]:List Int) 1=c7 c from rfl,aa];refine(NG (by rw[ID];omega) (λz aK=>?_)).trans ?_
     .obtain⟨q,an⟩:=hP.1 aK;obtain⟨z0,aQ,ao,_⟩:=F3 an;rw[ao];exact t.fr z0 (fC aQ)
     .rfl
    .unfold tC;rfl
   rw[ar];simp only[aa];rw[dm (by decide) (by omega),aa,aa, <-U];refine ae ⟨_,rfl,by simp;omega,λe j=>by simp[C e j],λe K S d r s y=>?_,λe d=>?_⟩
   .rcases e4.1 d with d |d
    .exact List.mem_append_left _ (u e K S d r s y)
    .rw[e0] at d;subst d;exact List.mem_append_right _ (by simp[rU])
   .rcases e4.1 d with d |d
    .exact H e d
    .rw[e0] at d;exact .inr ⟨a,B,d⟩
  .obtain⟨g,rfl,aB,C,u,H⟩:=T;dsimp only;unfold H9;rw[aG];rw[gy] at u;exact ae ⟨by omega,C,u,H⟩
 .obtain⟨a6,ab,am,Y⟩:=al;have aO:∀a,a∈g->j0 n np a/\Sm a.aw:=λe d=>by
   rcases Y e d with j |⟨a,j,rfl⟩
   .exact⟨(x e j).1,(D.2 e j).tg⟩
   .obtain⟨Z,a0⟩:=x a j;refine⟨⟨?_,λk aR=>?_⟩,?_⟩
    .show(kH c h (kH i h a.aH)).length=n
     rw[ID,ID];exact Z.1
    .obtain⟨m,I⟩:=hP.1 aR;obtain⟨aX,ac,af,_⟩:=F3 I;obtain⟨ag,aN,aq,_⟩:=F3 ac;rw[af,aq];exact Z.2 ag (fC aN)
    .show(gL i c a.aw).length<=1000000
     unfold gL
     split
     .rw[dT,dT];omega
     .omega
  refine aD (QQ (by omega) (by omega) g aO (by omega)) λout ap=>?_
  refine aV (λ_=>ae (.inr ⟨by simp,rfl⟩)) (λaZ=>ae (.inl ⟨rfl,R,by show out.length<=24;omega,⟨P,G,aw,av⟩,g,ap,λaA=>?_,ab,am,Y⟩))
  have:=ab V A;rw[aA] at this;cases this
def gG(h:aM->aM->Prop)(g d:List ay):Prop:=d.length=g.length/\∀(i:Nat) a b,g[i]?=c7 a->d[i]?=c7 b->b.aw=a.aw/\b.aH.length=a.aH.length/\∀(c:Nat) f e,a.aH[c]?=c7 f->b.aH[c]?=c7 e->h f e
def gG.snoc{m:aM->aM->Prop}{l n:List ay}{d j:ay}(h:gG m l n)(u:j.aw=d.aw)(w:j.aH.length=d.aH.length)(y:∀(k:Nat) x s,d.aH[k]?=c7 x->j.aH[k]?=c7 s->m x s):gG m (l++[d]) (n++[j]):=by
 refine⟨by simp[h.1],λi t o a c=>?_⟩
 have A:=h.1
 by_cases hi:i<l.length
 .rw[h6 hi] at a;rw[h6 (by omega)] at c;exact h.2 i t o a c
 .rw[eE (by omega)] at a;rw[eE (by omega),A] at c;have e:i -l.length=0:=by
   have:=(dt.1 a).1;simp at this;omega
  rw[e] at a c;have a:d=t:=by simpa using a
  have c:j=o:=by simpa using c
  subst a c;exact⟨u,w,y⟩
def gG.nil{a:aM->aM->Prop}:gG a [] []:=⟨rfl,λi d c h=>by simp at h⟩
def gG.back{m:aM->aM->Prop}{l e:List ay}(h:gG m l e){c:ay}(n:c∈e):∃a,a∈l/\c.aw=a.aw/\c.aH.length=a.aH.length/\∀(k:Nat) x j,a.aH[k]?=c7 x->c.aH[k]?=c7 j->m x j:=by
 obtain⟨i,hi,rfl⟩:=e5.1 n;have d:i<l.length:=by rw[<-h.1];exact hi
 exact⟨l[i],dd d,h.2 i _ _ (c6 d) (c6 hi)⟩
def Gq(j:ak)(b:aL)(m:Int)(S:gF b)(Z:Fit j.ai):Ok (kW LC j b m) λq=>(q.2=0/\cP j/\1<=b.aA.length/\b.aA.length<=24/\gG (λd e=>mP j d m e) b.aA q.1.aA)\/(q.2≠0/\q.1=b):=by
 unfold kW;rw[ko,aa,cF,aa,lA,fh rfl,aa];refine aV (λ_=>ae (.inr ⟨by simp,rfl⟩)) (λx=>?_)
 have Y:cP j:=dv λz=>x (.inl z)
 have z:1<=(b.aA.length:Int)/\(b.aA.length:Int)<=24:=dv λz=>x (.inr z)
 refine aD (Q:=λa=>match a with
  | .inl a=>a.2≠0/\aL.mk a.1=b
  | .inr a=>a.2=0->gG (λd e=>mP j d m e) b.aA a.1) ?_ λa G=>?_
 .refine di b.aA.length (λi c=>∃out o,c=(out,o,(i:Int))/\out.length=i/\(o=0->gG (λd e=>mP j d m e) (b.aA.take i) out)) _ (λi c I p=>?_) (λc p=>?_) _ ⟨[],0,rfl,rfl,λ_=>gG.nil⟩
  .obtain⟨out,o,rfl,M,y⟩:=p;have B:b.aA[i]?=c7 b.aA[i]:=c6 I;have N:=dd I;generalize b.aA[i]=h at B N;have K:=S.2 h N;have ac:=jZ K.wh;dsimp only;unfold Ka;rw[aC,bn,B,aa,zK K,aa];dsimp only;have X:Ok (bO (λc:List aM×Int×Int=>An LC h j m b c.1 c.2.1 c.2.2) (h.aH,o,0)) λa=>match a with
    | .inl a=>a.2=6/\a.1=b.aA
    | .inr a=>a.1.length=h.aH.length/\(a.2=0->o=0/\∀(g:Nat) d e,h.aH[g]?=c7 d->a.1[g]?=c7 e->mP j d m e):=by
    refine di h.aH.length (λg c=>c.2.2=(g:Int)/\c.1.length=h.aH.length/\(c.2.1=0->o=0/\∀(n:Nat) d e,n<g->h.aH[n]?=c7 d->c.1[n]?=c7 e->mP j d m e)) _ (λg c A p=>?_) (λc p=>?_) _ ⟨rfl,rfl,λx=>⟨x,λn d e L=>by omega⟩⟩
    .obtain⟨aK,l,W⟩:=c;obtain⟨rfl,u,r⟩:=p;dsimp only at u r⊢;have s:h.aH[g]?=c7 h.aH[g]:=c6 A;generalize h.aH[g]=d at s;unfold An;rw[aC,bn,s,aa];refine aD (Pd j d m Z) λq w=>?_
     refine aV (λD=>ae ⟨D,rfl⟩) (λD=>?_)
     have C:(bif c5 (l=0) then c7 q.2 else c7 l)=c7 (if l=0 then q.2 else l):=by
      by_cases k:l=0
      .rw[aC k,if_pos k]
      .rw[aG k,if_neg k]
     have F:g<aK.length:=by omega
     rw[C,aa,bn,c6 F,aa,dk,c6 F,aa,aJ];refine ae ⟨rfl,by rw[dT];exact u,λf=>?_⟩
     dsimp only at f⊢;have k:l=0:=by
      by_cases k:l=0
      .exact k
      .rw[if_neg k] at f;exact f
     rw[if_pos k] at f;obtain⟨E,L⟩:=r k;refine⟨E,λn T ab ad v t=>?_⟩
     by_cases J:n=g
     .subst J;rw[gv F] at t;rw[s] at v;injection v with v
      injection t with t
      subst v t;rcases w with⟨_,w⟩ |⟨w,_⟩
      .exact w
      .omega
     .rw[h9 (λC=>J C.symm)] at t;exact L n T ab (by omega) v t
    .obtain⟨aK,l,W⟩:=c;obtain⟨rfl,u,r⟩:=p;dsimp only at u r⊢;unfold An;rw[aG];refine ae ⟨u,λf=>⟨(r f).1,λg d e s V=>(r f).2 g d e (dt.1 s).1 s V⟩⟩
   obtain⟨a,R,H⟩:=X;rw[R];simp only[aa];cases a with
   |inl a=>
    obtain⟨D,U⟩:=H;dsimp only[ft,ei];rw[aa];dsimp only[ft,ei];refine ae ⟨by show a.2≠0;omega,?_⟩
    show aL.mk a.1=b
    rw[U]
   |inr a=>
    obtain⟨P,O⟩:=H;dsimp only[ft,ei];rw[aa];dsimp only[ft,ei];rw[dm (by decide) (by omega),aa,aJ];refine ae ⟨_,_,rfl,by simp[M],λf=>?_⟩
    obtain⟨E,A⟩:=O f;rw[iE B];exact(y E).snoc rfl P A
  .obtain⟨out,o,rfl,M,y⟩:=p;dsimp only;unfold Ka;rw[aG];rw[gy] at y;exact ae y
 .cases a with
  |inl a=>exact ae (.inr G)
  |inr a=>
   dsimp only[ei];refine aV (λf=>ae (.inr ⟨f,rfl⟩)) (λf=>ae (.inl ⟨rfl,Y,by omega,by omega,G (ej.1 f)⟩))
structure ki (m:ak) (l:List Int) (bm:ak):Prop where
 fN:cP m
 fy:cj 0 ((m.af.length:Int) -1) l
 pl:bm.ai=m.ai
 len:bm.af.length=m.af.length
 off:∀(i:Nat) r r',m.af[i]?=c7 r->bm.af[i]?=c7 r'->r'=r/\(i:Int)∉l\/r'={r with jy:=false}/\(i:Int)∈l
def Nw(d:ak)(b:List Int)(C:Fit b)(H:Fit d.af):Ok (sW LC d b) λq=>(q.2=0/\ki d b q.1)\/(q.2≠0/\(cP d->¬cj 0 ((d.af.length:Int) -1) b)/\q.1=⟨[],[]⟩):=by
 unfold sW;rw[ko,aa,de];refine aV (λl=>?_) (λv=>ae (.inr ⟨by simp,λh=>absurd h v,rfl⟩))
 have G:=l.2.1;rw[aJ,kw _ _ _ C,aa,de];refine aV (λt=>?_) (λv=>ae (.inr ⟨by simp,λ_=>v,rfl⟩))
 rw[mV (cX l.1 (by decide)),aa,nk (cX l.2.1 (by decide)),aa];have F:=t.len (by omega);refine aD (Q:=λw=>w.length=d.af.length/\∀(i:Nat) r c,d.af[i]?=c7 r->w[i]?=c7 c->c=r/\(i:Int)∉b\/c={r with jy:=false}/\(i:Int)∈b) ?_ λw x=>ae (.inl ⟨rfl,l,t,rfl,x.1,x.2⟩)
 refine di b.length (λf e=>e.2=(f:Int)/\e.1.length=d.af.length/\∀(i:Nat) r c,d.af[i]?=c7 r->e.1[i]?=c7 c->c=r/\(i:Int)∉b.take f\/c={r with jy:=false}/\(i:Int)∈b.take f) _ (λf e y o=>?_) (λe o=>?_) _ ⟨rfl,rfl,λi r c h a=>.inl ⟨by rw[h] at a;injection a with a;exact a.symm,by simp⟩⟩
 .obtain⟨aK,D⟩:=e;obtain⟨rfl,j,g⟩:=o;dsimp only at j g⊢;have u:b[f]?=c7 b[f]:=c6 y;have A:=t.mem (dd y);generalize b[f]=p at u A;have z:p.toNat<aK.length:=by omega
  have B:aj aK p=c7 (aK[p.toNat]):=qC A.1 (by omega);have k:aK[p.toNat]?=c7 (aK[p.toNat]):=c6 z;generalize aK[p.toNat]=E at B k;unfold Hb;rw[aC,bn,u,aa,B,aa,k,aa,aJ];refine ae ⟨rfl,by rw[dT];exact j,λi r c h a=>?_⟩
  rw[iE u];dsimp only at a;rw[hI] at a
  by_cases s:p.toNat=i
  .rw[if_pos s,if_pos z] at a;injection a with a
   subst a;rw[s] at k;refine .inr ⟨?_,by simp;right;omega⟩
   rcases g i r E h k with⟨rfl,_⟩ |⟨rfl,_⟩ <;> rfl
  .rw[if_neg s] at a;rcases g i r c h a with⟨n,m⟩ |⟨n,m⟩
   .exact .inl ⟨n,by simp[m];omega⟩
   .exact .inr ⟨n,by simp[m]⟩
 .obtain⟨aK,D⟩:=e;obtain⟨rfl,j,g⟩:=o;dsimp only at j g⊢;unfold Hb;rw[aG];rw[gy] at g;exact ae ⟨j,g⟩
def acx(a:ak)(b:List Int)(h:Fit b)(n:Fit a.af):Ok (vU LC a b) λq=>(q.2.2=0/\ki a b ⟨q.1,q.2.1⟩)\/(q.2.2≠0/\(cP a->¬cj 0 ((a.af.length:Int) -1) b)/\q.1=[]/\q.2.1=[]):=by
 have l:vU LC a b=(sW LC a b).bind λq=>c7 (q.1.ai,q.1.af,q.2):=by
  unfold vU sW;rw[ko,aa,aa]
  by_cases d:cP a
  rotate_left
  .rw[decide_eq_false d];rfl
  rw[decide_eq_true d];have o:=d.2.1;rw[aJ,kw _ _ _ h,aa,aa]
  by_cases g:cj 0 ((a.af.length:Int) -1) b
  rotate_left
  .rw[decide_eq_false g];rfl
  rw[decide_eq_true g];simp only[fe,cond_false];rw[mV (cX d.1 (by decide)),aa,aa,nk (cX d.2.1 (by decide)),aa,aa];show((bO (λc:List aZ×Int=>Bp LC b c.1 c.2) (a.af,0)).bind λe=>c7 (a.ai,e,(0:Int)))=((bO (λc:List aZ×Int=>Bp LC b c.1 c.2) (a.af,0)).bind λe=>c7 (ak.mk a.ai e,(0:Int))).bind λq=>c7 (q.1.ai,q.1.af,q.2)
  cases bO (λc:List aZ×Int=>Bp LC b c.1 c.2) (a.af,0) <;> rfl
 rw[l];refine aD (Nw a b h n) λq i=>ae ?_
 rcases i with m |⟨j,k,f⟩
 .exact .inl m
 .exact .inr ⟨j,k,by rw[f],by rw[f]⟩
structure rI (bm:ak) (t:Int) (x y:aM):Prop where
 new:jK bm y
 time:y.aa0=t
 wt:x.aa0<=t/\t<=2147483648
 le:∀p,0<=p->p<(bm.ai.length:Int)->fn x.an p<=t->fn y.an p<=fn x.an p
def apC{bm:ak}{x:aM}{t:Int}(L:x.an.length=bm.ai.length)(D:∀v,v∈x.an->fD v)(B:cP bm):Ok (CA LC bm x t) λq=>(q.2=0/\rI bm t x q.1)\/q.2≠0:=by
 have J:=B.1;unfold CA;rw[B6 (by omega),aa,Az (cX (n:=64) (by omega) (by decide)),aa];have H:(ec x.an.length (1099511627776:Int)).length=x.an.length:=e6;have u:∀p,p∈dz x t->0<=p/\p<(x.an.length:Int):=λp f=>by have:=Sq.1 f;exact⟨this.1,this.2.1⟩
 have K:(dz x t).length<=x.an.length:=pQ;refine aD (Q:=λj=>j.length=x.an.length/\(∀v,v∈j->fD v)/\∀p,p∈dz x t->fn j p=fn x.an p) ?_ λj A=>?_
 .refine di (dz x t).length (λe b=>b.2=(e:Int)/\b.1.length=x.an.length/\(∀v,v∈b.1->fD v)/\∀c p,c<e->(dz x t)[c]?=c7 p->fn b.1 p=fn x.an p) _ (λe b w r=>?_) (λb r=>?_) _ ⟨rfl,H,λv h=>.inr (gx h),λc p o=>by omega⟩
  .obtain⟨aK,G⟩:=b;obtain⟨rfl,i,g,k⟩:=r;dsimp only at i g k⊢;have f:(dz x t)[e]?=c7 (dz x t)[e]:=c6 w;have d:=u _ (dd w);generalize (dz x t)[e]=p at f d;unfold JO;rw[aC,bn,f,aa,gH d.1 d.2,aa,gH (l:=aK) d.1 (by omega),aa,iD (l:=aK) d.1 (by omega),aa,aJ];have I:=λq a=>wy (l:=aK) (p:=p) (q:=q) (x:=fn x.an p) d.1 (by omega) a
   refine ae ⟨rfl,by rw[dT];exact i,λv h=>?_,λc q o a=>?_⟩
   .rcases ev h with h |rfl
    .exact g v h
    .exact D _ (oR d.1 d.2)
   .dsimp only;have C:=u q (fC a);rw[I q C.1]
    split
    .rename_i s;rw[s]
    .rename_i s
     by_cases E:c=e
     .subst E;rw[f] at a;injection a with a;exact absurd a.symm s
     .exact k c q (by omega) a
  .obtain⟨aK,G⟩:=b;obtain⟨rfl,i,g,k⟩:=r;dsimp only at i g k⊢;unfold JO;rw[aG];refine ae ⟨i,g,λp f=>?_⟩
   obtain⟨c,o,rfl⟩:=e5.1 f;exact k c _ o (c6 o)
 .rw[acr];refine aD (Pd bm ⟨x.aa0,j⟩ t (by show bm.ai.length<=_;omega)) λq a=>ae ?_
  rcases a with⟨h0,m⟩ |⟨h0,_⟩
  .refine .inl ⟨h0,m.new,m.time,m.wt,λp y z F=>?_⟩
   have:=m.le p y z;rw[A.2.2 p (Sq.2 ⟨y,by omega,F⟩)] at this;exact this
  .exact .inr (by show q.2≠0;omega)
def Yj{l:List ay}{a:Int}(i:Fit l)(h:∀d,d∈l->Fit d.aH):AL LC l a=c7 (l.any λd=>d.aH.any λe=>c5 (a<e.aa0)):=by
 unfold AL Jm;have:=fF (l:=l) (P:=λc=>AP LC c a) (p:=λd=>d.aH.any λe=>c5 (a<e.aa0)) (f:=λb=>Jx LC l a b) i (λc g=>by
  unfold AP JC Gk;have:=fF (l:=c.aH) (P:=λc=>Jb LC c a) (p:=λe=>c5 (a<e.aa0)) (f:=λb=>Gr LC c.aH a b) (h c g) (λj k=>rfl) (λb=>rfl);rw[show(LC.loop (λb=>Gr LC c.aH a b) 0).bind _=_ from this,aa,gm]
  rfl) (λb=>rfl)
 rw[show(LC.loop (λb=>Jx LC l a b) 0).bind _=_ from this,aa,gm]
structure Ff (m:ak) (b:aL) (l:List Int) (t:Int) (n np:Nat) (b':aL):Prop where
 v:mz m b
 ex:∃bm lw,ki m l bm/\gG (λx y=>rI bm t x y) b.aA lw/\rZ n np lw b'.aA
def adg{g e:ak}{n:List Int}(l:ki g n e):cP e:=by
 obtain⟨a,_,c,h,j⟩:=l;refine⟨by rw[c];exact a.1,by rw[h];exact a.2.1,by rw[c];exact a.2.2.1,λo k=>?_⟩
 obtain⟨i,m,rfl⟩:=e5.1 k;have d:i<g.af.length:=by omega
 rw[c];have f:=a.2.2.2 _ (dd d);rcases j i _ _ (c6 d) (c6 m) with⟨b,_⟩ |⟨b,_⟩
 .rw[b];exact f
 .rw[b];exact f
def Uw(o:ak)(b:aL)(y:List Int)(t:Int){n np:Nat}(ar:n<=3)(ax:np<=64)(K:gF b)(am:Fit y)(aq:Fit o.af)(E:∀a,a∈b.aA->j0 n np a/\a.aw.length=n)(R:o.ai.length=np):Ok (Em LC o b y t) λq=>(q.2=0/\Ff o b y t n np q.1)\/q.2≠0:=by
 unfold Em;refine aD (vB o b K) λv ah=>?_
 rw[de];refine dy (λab=>?_) (λ_=>ae (.inr (by simp)))
 have G:=ah ab;have ay:=G.num;have h0:b.aA[0]?=c7 (b.aA[0]'(by omega)):=c6 (by omega);have O:=dd (show 0<b.aA.length by omega);generalize b.aA[0]'(by omega)=ag at h0 O;have az:=G.Mp O (by rw[(E ag O).2];exact ar);refine aD (Nw o y am aq) λr aj=>?_
 refine aV (λs=>ae (.inr s)) (λX=>?_)
 obtain⟨bm,ac⟩:=r;have F:ki o y bm:=by
  rcases aj with⟨_,l⟩ |⟨l,_⟩
  .exact l
  .exact absurd l X
 have Z:=adg F;rw[Yj (by show b.aA.length<=_;omega) (λa f=>by show a.aH.length<=_;rw[(E a f).1.1];omega),aa];have M:(bif c5 (2147483648<t) then c7 true else c7 (b.aA.any λa=>a.aH.any λx=>c5 (t<x.aa0)))=c7 (c5 (2147483648<t)||b.aA.any λa=>a.aH.any λx=>c5 (t<x.aa0)):=Fy rfl;rw[M,aa];refine dy (λ_=>ae (.inr (by simp))) (λ_=>?_)
 refine aD (Q:=λc=>match c with
  | .inl c=>c.2≠0
  | .inr c=>gG (λx w=>rI bm t x w) b.aA c) ?_ λc C=>?_
 .refine di b.aA.length (λi e=>∃out,e=(out,(i:Int))/\gG (λx w=>rI bm t x w) (b.aA.take i) out) _ (λi e S k=>?_) (λe k=>?_) _ ⟨[],rfl,gG.nil⟩
  .obtain⟨out,rfl,B⟩:=k;have f:b.aA[i]?=c7 b.aA[i]:=c6 S;have H:=dd S;generalize b.aA[i]=a at f H;have an:=K.2 a H;obtain⟨D,av⟩:=E a H;have aB:=D.1;have U:=B.1;rw[ea] at U;dsimp only;unfold FR;rw[aC,bn,f,aa,zK an,aa];dsimp only;have ap:Ok (bO (λe:List aM×Int=>zx LC a (bm,ac) t b e.1 e.2) (a.aH,0)) λc=>match c with
    | .inl c=>c.2≠0
    | .inr c=>c.length=a.aH.length/\∀(d:Nat) x h,a.aH[d]?=c7 x->c[d]?=c7 h->rI bm t x h:=by
    refine di a.aH.length (λd e=>e.2=(d:Int)/\e.1.length=a.aH.length/\∀(j:Nat) x h,j<d->a.aH[j]?=c7 x->e.1[j]?=c7 h->rI bm t x h) _ (λd e p k=>?_) (λe k=>?_) _ ⟨rfl,rfl,λj x h aE=>by omega⟩
    .obtain⟨aK,ao⟩:=e;obtain⟨rfl,z,u⟩:=k;dsimp only at z u⊢;have g:a.aH[d]?=c7 a.aH[d]:=c6 p;have L:=dd p;generalize a.aH[d]=x at g L;unfold zx;rw[aC,bn,g,aa];refine aD (apC (bm:=bm) (x:=x) (t:=t) (by rw[D.2 x L,F.pl,R]) (G.ok a H x L).1.2.2 Z) λq V=>?_
     refine aV (λs=>ae s) (λs=>?_)
     have Y:rI bm t x q.1:=by
      rcases V with⟨_,l⟩ |l
      .exact l
      .exact absurd l s
     have N:d<aK.length:=by omega
     rw[bn,c6 N,aa,dk,c6 N,aa,aJ];refine ae ⟨rfl,by rw[dT];exact z,λj w au aA A m=>?_⟩
     dsimp only at m
     by_cases T:j=d
     .subst T;rw[gv N] at m;rw[g] at A;injection A with A
      injection m with m
      subst A m;exact Y
     .rw[h9 (λM=>T M.symm)] at m;exact u j w au (by omega) A m
    .obtain⟨aK,ao⟩:=e;obtain⟨rfl,z,u⟩:=k;dsimp only at z u⊢;unfold zx;rw[aG];exact ae ⟨z,λd x h g ai=>u d x h (dt.1 g).1 g ai⟩
   obtain⟨c,af,P⟩:=ap;rw[af];simp only[aa];cases c with
   |inl c=>
    dsimp only[ft,ei];rw[aa];exact ae P
   |inr c=>
    obtain⟨J,I⟩:=P;dsimp only[ft,ei];rw[aa];dsimp only[ft,ei];rw[dm (by decide) (by omega),aa,aJ];refine ae ⟨_,rfl,?_⟩
    rw[iE f];exact B.snoc rfl J I
  .obtain⟨out,rfl,B⟩:=k;dsimp only;unfold FR;rw[aG];rw[gy] at B;exact ae B
 .cases c with
  |inl c=>exact ae (.inr C)
  |inr c=>
   dsimp only[ei];have U:=C.1;refine aD (QQ (n:=n) (np:=np) (by omega) (by omega) c (λaF W=>?_) (by omega)) λout ad=>ae (.inl ⟨rfl,G,bm,c,F,C,ad⟩)
   obtain⟨a,f,J,I,al⟩:=C.back W;obtain⟨D,av⟩:=E a f;refine⟨⟨I.trans D.1,λx g=>?_⟩,by rw[J];exact(K.2 a f).tg⟩
   obtain⟨d,p⟩:=hP.1 g;have aw:=(dt.1 p).1;have:=(al d _ x (c6 (show d<a.aH.length by omega)) p).new.1.1;rw[this,F.pl,R]
def ld(b:aL)(a e:Int):List Int:=kM (λp=>b.aA.any λc=>c5 (0<=a/\a<(c.aH.length:Int))&&(match c.aH[a.toNat]? with |some d=>c5 (p<(d.an.length:Int))&&c5 (fn d.an p<=e) |none=>false)) 64
def RJ{b:aL}{f k p:Int}:p∈ld b f k↔0<=p/\p<64/\∃c d,c∈b.aA/\0<=f/\c.aH[f.toNat]?=c7 d/\p<(d.an.length:Int)/\fn d.an p<=k:=by
 unfold ld;rw[SJ,m3]
 constructor
 .rintro⟨g,h,c,i,l⟩;rw[j3,decide_eq_true_iff] at l;obtain⟨j,a⟩:=l;cases e:c.aH[f.toNat]? with
  |none=>rw[e] at a;cases a
  |some d=>
   rw[e] at a;dsimp only at a;rw[j3,decide_eq_true_iff,decide_eq_true_iff] at a;exact⟨g,h,c,d,i,j.1,e,a.1,a.2⟩
 .rintro⟨g,h,c,d,i,j,e,a,m⟩;refine⟨g,h,c,i,?_⟩
  have:=(dt.1 e).1;rw[e];dsimp only;rw[j3,decide_eq_true_iff,j3,decide_eq_true_iff,decide_eq_true_iff];exact⟨⟨j,by omega⟩,a,m⟩
def QC{b:aL}{a e:Int}(m:gF b):rJ LC b a e=c7 (ld b a e):=by
 unfold rJ Lb;have t:=jZ m.1;have r:=GY (n:=64) (by omega) (P:=λd=>AZ LC d b.aA a e) (p:=λp=>b.aA.any λc=>c5 (0<=a/\a<(c.aH.length:Int))&&(match c.aH[a.toNat]? with |some g=>c5 (p<(g.an.length:Int))&&c5 (fn g.an p<=e) |none=>false)) (f:=λd=>JI LC 64 b.aA a e d.1 d.2) (λi u=>by
  unfold AZ FH Gu;have:=fF (l:=b.aA) (P:=λc=>zt LC c a (i:Int) e) (p:=λc=>c5 (0<=a/\a<(c.aH.length:Int))&&(match c.aH[a.toNat]? with |some g=>c5 ((i:Int)<(g.an.length:Int))&&c5 (fn g.an i<=e) |none=>false)) (f:=λd=>GA LC b.aA a (i:Int) e d) (by omega) (λc q=>by
   unfold zt;have s:=jZ (m.2 c q).wh;rw[aJ (n:=(c.aH.length:Int) -1),cF,aa]
   by_cases j:0<=a/\a<=(c.aH.length:Int) -1
   .have k:c.aH[a.toNat]?=c7 (c.aH[a.toNat]'(by omega)):=c6 (by omega);generalize c.aH[a.toNat]'(by omega)=g at k;have o:aj c.aH a=c7 g:=by unfold aj;rw[if_pos j.1];exact k
    rw[aC j,o,aa,aa,k,decide_eq_true (show 0<=a/\a<(c.aH.length:Int) by omega),Bool.true_and];dsimp only
    by_cases h:(i:Int)<(g.an.length:Int)
    .rw[aC h,gH (by omega) h,aa,decide_eq_true h];rfl
    .rw[aG h,decide_eq_false h];rfl
   .rw[aG j,decide_eq_false (show ¬(0<=a/\a<(c.aH.length:Int)) by omega)];rfl) (λd=>rfl)
  rw[show(LC.loop (λd=>GA LC b.aA a (i:Int) e d) 0).bind _=_ from this,aa,gm]
  rfl) (λl d=>rfl)
 rw[show LC.loop (λd:List Int×Int=>JI LC 64 b.aA a e d.1 d.2) ([],0)=_ from r,aa,aa]
 rfl
def js(c:ay)(e:List Int)(b:Int)(a:Nat):Bool:=match c.aH[a]? with |some d=>(dz d b).any λp=>c5 (p∈e) |none=>false
def jT(c:ay)(d:List Int)(b:Int)(a:Nat):Bool:=js c d b a&&(match c.aH[a]? with |some e=>!(dz e b).any λp=>!c5 (p∈d) |none=>false)
def Zz{e:ay}{g:Nat}{a:List Int}{b:Int}(k:tz e)(n:Fit a)(m:g<e.aH.length):Cx LC e (g:Int) a b=c7 (jT e a b g,js e a b g):=by
 have i:e.aH[g]?=c7 e.aH[g]:=c6 m;have j:=dd m;unfold Cx jT js;rw[i];generalize e.aH[g]=c at i j;have s:=jZ (k.fr c j);have t:(dz c b).length<=c.an.length:=pQ;have r:CG LC (dz c b) a=c7 ((dz c b).any λp=>c5 (p∈a)):=by
  unfold CG Jg;have:=fF (l:=dz c b) (P:=λh=>uh LC h a) (p:=λp=>c5 (p∈a)) (f:=λd=>Jj LC (dz c b) a d) (by omega) (λh q=>by
   unfold uh;rw[contains_eq n,aa]) (λd=>rfl)
  rw[show(LC.loop (λd=>Jj LC (dz c b) a d) 0).bind _=_ from this,aa,gm]
 have o:zo LC (dz c b) a=c7 ((dz c b).any λp=>!c5 (p∈a)):=by
  unfold zo FW;have:=fF (l:=dz c b) (P:=λh=>zq LC h a) (p:=λp=>!c5 (p∈a)) (f:=λd=>Ih LC (dz c b) a d) (by omega) (λh q=>by
   unfold zq uh;rw[contains_eq n,aa,aa]) (λd=>rfl)
  rw[show(LC.loop (λd=>Ih LC (dz c b) a d) 0).bind _=_ from this,aa,gm]
 rw[aG,bn,i,aa,Az (k.fr c j),aa,r,aa,o,aa];dsimp only;cases (dz c b).any λp=>c5 (p∈a) <;> rfl
def fH(p:Nat->Bool):Nat->Int
 |0=>0
 |a+1=>fH p a+(if p a then 1 else 0)
def Iu(p:Nat->Bool):∀a,0<=fH p a/\fH p a<=a
 |0=>by unfold fH;omega
 |a+1=>by have:=Iu p a;unfold fH;split <;> omega
def aqJ{b:aL}{c:List Int}{d:Int}(r:gF b)(A:Fit c):Ok (Ew LC b c d) λg=>∀a,a∈b.aA->g.eF<=fH (jT a c d) a.aH.length/\fH (js a c d) a.aH.length<=g.fk:=by
 have F:=jZ r.1;unfold Ew;refine aD (Q:=λq=>∀a,a∈b.aA->q.1<=fH (jT a c d) a.aH.length/\fH (js a c d) a.aH.length<=q.2) ?_ λq v=>ae v
 refine di b.aA.length (λi g=>g.2.2=(i:Int)/\∀a,a∈b.aA.take i->g.1<=fH (jT a c d) a.aH.length/\fH (js a c d) a.aH.length<=g.2.1) _ (λi g s h=>?_) (λg h=>?_) _ ⟨rfl,λa k=>by simp at k⟩
 .obtain⟨p,m,x⟩:=g;obtain⟨rfl,h⟩:=h;dsimp only at h⊢;have k:b.aA[i]?=c7 b.aA[i]:=c6 s;have u:=dd s;generalize b.aA[i]=a at k u;have t:=r.2 a u;have D:=jZ t.wh;unfold Fa;rw[aC,bn,k,aa];have B:=nV (f:=λg:Int×Int×Int=>DF LC a c d g.1 g.2.1 g.2.2) a.aH.length (λe=>(fH (jT a c d) e,fH (js a c d) e,(e:Int))) (fH (jT a c d) a.aH.length,fH (js a c d) a.aH.length) (λe w=>by
   dsimp only;unfold DF;have E:=Iu (jT a c d) e;have G:=Iu (js a c d) e;rw[aC,Zz t A w,aa];dsimp only;rw[aJ (n:=fH (jT a c d) e+1),aJ (n:=fH (js a c d) e+1),aJ (n:=(e:Int)+1)];have y:(bif jT a c d e then c7 (fH (jT a c d) e+1) else c7 (fH (jT a c d) e))=c7 (fH (jT a c d) (e+1)):=by
    rw[fH];cases jT a c d e
    .simp
    .simp
   have o:(bif js a c d e then c7 (fH (js a c d) e+1) else c7 (fH (js a c d) e))=c7 (fH (js a c d) (e+1)):=by
    rw[fH];cases js a c d e
    .simp
    .simp
   rw[y,aa,o,aa]
   rfl) (by
   dsimp only;unfold DF;rw[aG])
  refine c8 B ?_
  dsimp only;have o:(bif c5 ((i:Int)=0) then c7 (fH (jT a c d) a.aH.length,fH (js a c d) a.aH.length) else c7 (p,m))=c7 (if(i:Int)=0 then(fH (jT a c d) a.aH.length,fH (js a c d) a.aH.length) else(p,m)):=by
   by_cases l:(i:Int)=0
   .rw[aC l,if_pos l]
   .rw[aG l,if_neg l]
  rw[o,aa,aJ];refine ae ⟨rfl,λz j=>?_⟩
  rw[iE k] at j;dsimp only;rcases e4.1 j with j |j
  .have C:=h z j;rw[if_neg (by
    intro h0;have:i=0:=by omega
    subst this;simp at j)]
   omega
  .rw[e0] at j;subst j
   split <;> omega
 .obtain⟨p,m,x⟩:=g;obtain⟨rfl,h⟩:=h;dsimp only at h⊢;unfold Fa;rw[aG];rw[gy] at h;exact ae h
def D1(b:aL)(d:List Int):Prop:=∀c,c∈b.aA->∀a,a∈c.aH->∀p,p∈d->0<=p->p<(a.an.length:Int)->fn a.an p=1099511627776
noncomputable instance (b:aL) (a:List Int):Decidable (D1 b a):=m4 _
def apy{b:List Int}{a:aM}(i:Fit b)(h:Sm a.an):As LC b a=c7 (b.any λp=>c5 ((0<=p/\p<(a.an.length:Int))/\fn a.an p≠1099511627776)):=by
 unfold As G4;have k:=jZ h;have:=fF (l:=b) (P:=λd=>CR LC d a) (p:=λp=>c5 ((0<=p/\p<(a.an.length:Int))/\fn a.an p≠1099511627776)) (f:=λe=>G9 LC b a e) i (λd j=>by
  unfold CR;rw[aJ,cF,aa]
  by_cases g:0<=d/\d<=(a.an.length:Int) -1
  .rw[aC g,gH g.1 (by omega),aa]
   congr 1
   exact decide_eq_decide.2 ⟨λc=>⟨by omega,c⟩,λc=>c.2⟩
  .rw[aG g,decide_eq_false (λc=>g (by omega))]) (λe=>rfl)
 rw[show(LC.loop (λe=>G9 LC b a e) 0).bind _=_ from this,aa,gm]
def Vo{b:aL}{e:List Int}(l:gF b)(t:Fit e):wA LC b e=c7 (c5 (D1 b e)):=by
 have A:=jZ l.1;unfold wA;have x:∀c,c∈b.aA->bO (λg=>xK LC c e g) 0=c7 (if ∀i,i<c.aH.length->(λi:Nat=>match c.aH[i]? with |some d=>e.any λp=>c5 ((0<=p/\p<(d.an.length:Int))/\fn d.an p≠1099511627776) |none=>false) i=false then .inr () else .inl ()):=λc h=>by
  have z:=jZ (l.2 c h).wh;refine oD _ _ () (λi a=>?_) ?_
  .unfold xK;rw[aC,bn,c6 a,aa,apy t ((l.2 c h).fr _ (dd a)),aa,aJ];simp only[c6 a];cases e.any λp=>c5 ((0<=p/\p<(c.aH[i].an.length:Int))/\fn c.aH[i].an p≠1099511627776) <;> rfl
  .unfold xK;rw[aG]
 have o:∀c,c∈b.aA->((∀i,i<c.aH.length->(λi:Nat=>match c.aH[i]? with |some d=>e.any λp=>c5 ((0<=p/\p<(d.an.length:Int))/\fn d.an p≠1099511627776) |none=>false) i=false)↔∀d,d∈c.aH->∀p,p∈e->0<=p->p<(d.an.length:Int)->fn d.an p=1099511627776):=λc h=>by
  constructor
  .intro f d w p m h0 k;obtain⟨i,a,rfl⟩:=e5.1 w;have:=f i a;simp only[c6 a,m1] at this;have:=this p m;rw[decide_eq_true_iff] at this;exact dv λy=>this ⟨⟨h0,k⟩,y⟩
  .intro f i a;simp only[c6 a,m1];intro p m r;obtain⟨⟨h0,k⟩,q⟩:=of_decide_eq_true r;exact q (f _ (dd a) p m h0 k)
 have v:bO (λg=>wF LC b e g) 0=c7 (if ∀i,i<b.aA.length->(λi:Nat=>match b.aA[i]? with |some c=>!c5 (∀i,i<c.aH.length->(λi:Nat=>match c.aH[i]? with |some d=>e.any λp=>c5 ((0<=p/\p<(d.an.length:Int))/\fn d.an p≠1099511627776) |none=>false) i=false) |none=>false) i=false then .inr () else .inl ()):=by
  refine oD _ _ () (λi a=>?_) ?_
  .unfold wF;rw[aC,bn,c6 a,aa,show LC.loop (λg=>xK LC b.aA[i] e g) 0=_ from x _ (dd a),aa,aJ];simp only[c6 a]
   by_cases f:∀n,n<b.aA[i].aH.length->(λu:Nat=>match b.aA[i].aH[u]? with |some d=>e.any λp=>c5 ((0<=p/\p<(d.an.length:Int))/\fn d.an p≠1099511627776) |none=>false) n=false
   .rw[if_pos f,decide_eq_true f];rfl
   .rw[if_neg f,decide_eq_false f];rfl
  .unfold wF;rw[aG]
 rw[show LC.loop (λg=>wF LC b e g) 0=_ from v,aa]
 by_cases j:D1 b e
 .rw[if_pos (λi a=>by
   simp only[c6 a];rw[decide_eq_true ((o _ (dd a)).2 (j _ (dd a)))];rfl),decide_eq_true j]
  rfl
 .rw[if_neg (λs=>j λc h=>by
   obtain⟨i,a,rfl⟩:=e5.1 h;have:=s i a;simp only[c6 a] at this;rw[Bool.not_eq_false',decide_eq_true_iff] at this;exact(o _ h).1 this),decide_eq_false j]
  rfl
def ke(a:bI):Prop:=-1125899906842624<=a.eF/\a.fk<=1125899906842624/\a.eF<=a.fk
instance (a:bI):Decidable (ke a):=by unfold ke;infer_instance
def lq(a:ak)(c:List bI):Prop:=cP a/\c.length=a.af.length/\∀b,b∈c->ke b
instance (a:ak) (b:List bI):Decidable (lq a b):=by unfold lq;infer_instance
def uW(d:ak)(l:List bI):pD LC d l=c7 (c5 (lq d l)):=by
 unfold pD;rw[ko,aa]
 by_cases c:cP d
 rotate_left
 .rw[aG c,decide_eq_false (λb=>c b.1)]
 have j:=c.2.1;rw[aC c]
 by_cases e:(l.length:Int)=(d.af.length:Int)
 rotate_left
 .rw[aG e,decide_eq_false (λb=>e (by have:=b.2.1;omega))]
 rw[aC e];have h:B8 LC l=c7 (l.any λa=>!c5 (ke a)):=by
  unfold B8 Kq;have:=fF (l:=l) (P:=λg=>EP LC g) (p:=λa=>!c5 (ke a)) (f:=λa=>Kz LC l a) (by omega) (λg i=>by
   unfold EP;rw[ew (ew rfl), <-decide_not]
   congr 1
   apply decide_eq_decide.2
   unfold ke;omega) (λa=>rfl)
  rw[show(LC.loop (λa=>Kz LC l a) 0).bind _=_ from this,aa,gm]
 rw[h,aa,ot]
 congr 1
 exact decide_eq_decide.2 ⟨λb=>⟨c,by omega,b⟩,λb=>b.2.2⟩
def Fe{a:ak}(m:cP a){i:Nat}{d:bI}(b:Bool)(p:ke d):Ok (n6 LC a (i:Int) d b) λn=>n= -1\/(0<=n/\n<=1000000000000):=by
 obtain⟨u,q,y⟩:=p;have A:=m.2.1;unfold n6
 by_cases j:i<a.af.length
 rotate_left
 .have g:(bif c5 ((i:Int)<0) then c7 true else bif c5 ((a.af.length:Int)<=(i:Int)) then c7 true else(aj a.af (i:Int)).bind λf=>c7 f.eN)=c7 true:=by
   rw[aG,aC]
  rw[g,aa];exact ae (.inl rfl)
 have k:=m.2.2.2 _ (dd j);have h:=c6 j;generalize a.af[i]=r at k h;have e:=k.2.1;have g:(bif c5 ((i:Int)<0) then c7 true else bif c5 ((a.af.length:Int)<=(i:Int)) then c7 true else(aj a.af (i:Int)).bind λf=>c7 f.eN)=c7 r.eN:=by
  rw[aG,aG,bn,h,aa]
 rw[g,aa];refine dy (λ_=>ae (.inl rfl)) (λ_=>?_)
 rw[bn,h,aa,aJ (n:=0 -d.fk),aJ (n:=0 -d.eF)];refine aD (Q:=λc=>-1125899906842624<=c.2/\c.2<=1125899906842624) (dy (λ_=>ae (by dsimp only;omega)) (λ_=>ae (by dsimp only;omega))) λc t=>?_
 refine aD (Q:=λn=>n= -1\/(0<=n/\n<=1000000000000)) (dy (λ_=>ae (.inr (by omega))) (λ_=>ae (.inl rfl))) λn l=>?_
 refine aV (λz=>?_) (λ_=>ae l)
 have w:1<=r.aj3*r.bT:=q7 (by decide) (n0 e.1 e.2.2.1 (by decide) (by omega));have x:r.aj3*r.bT<=100000*1000:=n0 e.2.1 e.2.2.2 (by omega) (by decide);rw[aJ (n:=r.aj3*r.bT),aJ (n:=r.aj3*r.bT*1000),Ek (by omega),aa];have o:(r.aj3*r.bT*1000).tdiv c.2=(r.aj3*r.bT*1000)/c.2:=Int.tdiv_eq_ediv_of_nonneg (by omega);have s:0<=(r.aj3*r.bT*1000)/c.2:=p6 (by omega) (by omega);have v:(r.aj3*r.bT*1000)/c.2<=r.aj3*r.bT*1000:=oj _ (by omega);rw[o,aJ,ew rfl,aa];exact aV (λ_=>ae (.inr (by omega))) (λ_=>ae l)
def eC(c:ak)(b:List Int):Prop:=b.length=c.ai.length/\∀a,a∈b->0<=a/\a<=1099511627776
def iu:List Int->Int
 |[]=>0
 |b::a=>b+iu a
def FF:∀{l:List Int},(∀a,a∈l->0<=a/\a<=1099511627776)->0<=iu l
 |[],_=>eH _
 |a::l,b=>by
  have e:=b a (by simp);have f:=FF (l:=l) λc d=>b c (by simp[d])
  unfold iu;omega
def LQ:∀{b:List Int} {i:Nat} {d a:Int},b[i]?=c7 a->iu (b.set i d)=iu b -a+d
 |[],i,d,a,c=>by simp at c
 |e::b,0,d,a,c=>by
  have:e=a:=by simpa using c
  subst this;rw[hX];unfold iu;omega
 |e::b,i+1,d,a,c=>by
  have f:b[i]?=c7 a:=by simpa using c
  rw[l2];unfold iu;rw[LQ f];omega
def eC.set{m:ak}{l:List Int}(h:eC m l)(i:Nat){x:Int}(d:0<=x/\x<=1099511627776):eC m (l.set i x):=⟨by rw[dT];exact h.1,λc a=>by
 rcases ev a with a |rfl
 .exact h.2 c a
 .exact d⟩
def P4{c:ak}{fl:List bI}(h:lq c fl){a:List Int}(d:eC c a){i:Nat}(l:i<c.af.length){p q:Int}(g:0<=p/\p<(c.ai.length:Int))(e:0<=q/\q<(c.ai.length:Int))(b:Bool):
 Ok (yr LC a c.ai c.af fl (i:Int) p q b) λr=>eC c r.1/\((r.2=false/\r.1=a)\/(r.2=true/\iu r.1<iu a)):=by
 have k:i<fl.length:=by rw[h.2.1];exact l
 unfold yr;rw[bn,c6 k,aa];refine aD (Fe h.1 b (h.2.2 _ (dd k))) λn s=>?_
 have j:p<(a.length:Int):=by rw[d.1];exact g.2
 have f:q<(a.length:Int):=by rw[d.1];exact e.2
 have t:=d.2 _ (oR g.1 j);have m:=d.2 _ (oR e.1 f);rw[gH g.1 j,iD g.1 j,gH e.1 f,iD e.1 f];simp only[aa];rw[aJ (n:=fn a p+n),ew (ew (ew rfl)),aa];refine aV (λ_=>ae ⟨d,.inl ⟨rfl,rfl⟩⟩) (λo=>ae ⟨d.set _ (by omega),.inr ⟨rfl,?_⟩⟩)
 show iu (a.set q.toNat (fn a p+n))<iu a
 rw[LQ (iD e.1 f)];omega
def Af{b:ak}{fl:List bI}(l:lq b fl){k:List Int}(z:eC b k):Ok (rM LC k b.ai b.af fl) (eC b):=by
 have C:=l.1.2.1;unfold rM;refine aD (Q:=eC b) ?_ λr e=>ae e
 refine oa (λa:List Int×Bool=>eC b a.1) (λa=>2*(iu a.1).toNat+(if a.2 then 1 else 0)) _ (λa d=>?_) _ z
 obtain⟨aK,A⟩:=a;unfold Ms;refine dy (λw=>?_) (λ_=>ae d)
 dsimp only at w d⊢;subst w;refine aD (Q:=λg=>eC b g.1/\((g.2=false/\iu g.1<=iu aK)\/(g.2=true/\iu g.1<iu aK))) ?_ λg o=>?_
 .refine di b.af.length (λi a=>a.2.2=(i:Int)/\eC b a.1/\((a.2.1=false/\iu a.1<=iu aK)\/(a.2.1=true/\iu a.1<iu aK))) _ (λi a m d=>?_) (λa d=>?_) _ ⟨rfl,d,.inl ⟨rfl,eH _⟩⟩
  .obtain⟨k,p,x⟩:=a;obtain⟨rfl,j,c⟩:=d;dsimp only at j c⊢;have e:=(l.1.2.2.2 _ (dd m)).1;unfold I6;rw[aC,bn,c6 m,aa];generalize b.af[i]=r at e;refine aD (P4 l j m ⟨e.1,by omega⟩ ⟨e.2.2.1,by omega⟩ false) λq s=>?_
   refine aD (P4 l s.1 m ⟨e.2.2.1,by omega⟩ ⟨e.1,by omega⟩ true) λv t=>?_
   have y:(bif p then c7 true else bif q.2 then c7 true else c7 v.2)=c7 (p||(q.2||v.2)):=Fy (Fy rfl);rw[y,aa,aJ];refine ae ⟨rfl,t.1,?_⟩
   dsimp only;rcases c with⟨rfl,c⟩ |⟨rfl,c⟩ <;> rcases s.2 with⟨f,h⟩ |⟨f,h⟩ <;> rcases t.2 with⟨u,n⟩ |⟨u,n⟩ <;> rw[f,u] <;> simp only[Bool.or_false,Bool.or_true,Bool.true_or,Bool.false_or,true_and,false_and,reduceCtorEq,false_or,or_false] <;> first |(rw[n,h];exact c) |(rw[n];omega) |(rw[h] at n;omega) |omega
  .obtain⟨k,p,x⟩:=a;obtain⟨rfl,j,c⟩:=d;dsimp only at j c⊢;unfold I6;rw[aG];exact ae ⟨j,c⟩
 .have B:=FF d.2;have D:=FF o.1.2;refine ae ⟨o.1,?_⟩
  dsimp only;rcases o.2 with⟨f,h⟩ |⟨f,h⟩
  .rw[f];simp only[if_true,j5,if_false];omega
  .rw[f];simp only[if_true];omega
def ud(c:ak)(a:bQ):Prop:=cP c/\a.an.length=c.ai.length/\(0<=a.aa0/\a.aa0<=2147483648)/\∀b,b∈a.an->b=1099511627776\/(a.aa0<=b/\b<=2147483648)
instance (a:ak) (b:bQ):Decidable (ud a b):=by unfold ud;infer_instance
def QM(g:ak)(a:bQ):wB LC g a=c7 (c5 (ud g a)):=by
 unfold wB;rw[ko,aa]
 by_cases e:cP g
 rotate_left
 .rw[aG e,decide_eq_false (λb=>e b.1)]
 have o:=e.1;rw[aC e]
 by_cases i:(a.an.length:Int)=(g.ai.length:Int)
 rotate_left
 .rw[aG i,decide_eq_false (λb=>i (by have:=b.2.1;omega))]
 rw[aC i,cF,aa];have k:Ab LC a.an a=c7 (a.an.any λc=>!c5 (c=1099511627776\/(a.aa0<=c/\c<=2147483648))):=by
  unfold Ab GH;have:=fF (l:=a.an) (P:=λd=>DV LC d a) (p:=λc=>!c5 (c=1099511627776\/(a.aa0<=c/\c<=2147483648))) (f:=λh=>GU LC a.an a h) (by omega) (λd n=>by
   unfold DV;rw[cF,aa]
   by_cases b:d=1099511627776
   .rw[aG (λm=>m b),decide_eq_true (show d=1099511627776\/(a.aa0<=d/\d<=2147483648) from .inl b)];rfl
   .rw[aC b]
    congr 2
    apply decide_eq_decide.2
    exact⟨.inr,λj=>j.resolve_left b⟩) (λa=>rfl)
  rw[show(LC.loop (λh=>GU LC a.an a h) 0).bind _=_ from this,aa,gm]
 rw[k,aa,ot,fm rfl]
 congr 1
 exact decide_eq_decide.2 ⟨λb=>⟨e,by omega,b⟩,λb=>b.2.2⟩
def eC.of{m:ak}{s:bQ}(h:ud m s):eC m s.an:=⟨h.2.1,λx a=>by have:=h.2.2.2 x a;have:=h.2.2.1;omega⟩
def filled(a:bQ)(b:Int):List Int:=kM (λp=>c5 (fn a.an p<=b)) a.an.length
def Oo{a:bQ}{c:Int}(d:Sm a.an):w6 LC a c=c7 (filled a c):=by
 unfold w6 Fc;have e:=GY (n:=a.an.length) d (P:=λb=>A8 LC b a c) (p:=λp=>c5 (fn a.an p<=c)) (f:=λb=>JS LC (a.an.length:Int) a c b.1 b.2) (λi g=>by
  unfold A8;rw[gH (by omega) (by omega),aa]) (λh a=>rfl)
 rw[show LC.loop (λb:List Int×Int=>JS LC (a.an.length:Int) a c b.1 b.2) ([],0)=_ from e,aa,aa]
 rfl
def aqw(a:ak)(fl:List bI)(b:List Int)(h:Int)(v:Fit b)(w:Fit a.ai):Ok (Eh LC a fl b h) λq=>(q.2=0/\eC a q.1.an/\q.1.aa0=h/\lq a fl)\/(q.2≠0/\¬(lq a fl/\cj 0 ((a.ai.length:Int) -1) b/\0<=h/\h<=2147483648)):=by
 have y:a.ai.length<=4611686018427387904:=w;unfold Eh;rw[uW,aa,de];refine aV (λf=>?_) (λf=>ae (.inr ⟨by simp,λg=>f g.1⟩))
 rw[aJ,kw _ _ _ v,aa,de];refine aV (λd=>?_) (λd=>ae (.inr ⟨by simp,λg=>d g.2.1⟩))
 rw[cF,aa,de];refine aV (λn=>?_) (λn=>ae (.inr ⟨by simp,λg=>n g.2.2⟩))
 have z:=f.1.1;have x:=d.len (by omega);rw[B6 (by omega),aa];refine aD (Q:=eC a) ?_ λB s=>?_
 .refine di b.length (λi c=>c.2=(i:Int)/\eC a c.1) _ (λi c m k=>?_) (λc k=>?_) _ ⟨rfl,e6,λA u=>by rw[gx u];omega⟩
  .obtain⟨aK,t⟩:=c;obtain⟨rfl,e⟩:=k;dsimp only at e⊢;have o:b[i]?=c7 b[i]:=c6 m;have j:=d.mem (dd m);generalize b[i]=p at o j;have l:p<(aK.length:Int):=by rw[e.1];omega
   unfold Fg;rw[aC,bn,o,aa,gH j.1 l,aa,iD j.1 l,aa,aJ];exact ae ⟨rfl,e.set _ (by omega)⟩
  .obtain⟨aK,t⟩:=c;obtain⟨rfl,e⟩:=k;dsimp only at e⊢;unfold Fg;rw[aG];exact ae e
 .exact aD (Af f s) λr d=>ae (.inl ⟨rfl,d,rfl,f⟩)
def amZ(a:ak)(fl:List bI)(b:List Int)(h:Int)(v:Fit b)(w:Fit a.ai):Ok (EX LC a fl b h) λq=>(q.2.2=0/\eC a q.1/\q.2.1=h/\lq a fl)\/(q.2.2≠0/\¬(lq a fl/\cj 0 ((a.ai.length:Int) -1) b/\0<=h/\h<=2147483648)):=by
 have y:a.ai.length<=4611686018427387904:=w;unfold EX;rw[uW,aa,de];refine aV (λf=>?_) (λf=>ae (.inr ⟨by simp,λg=>f g.1⟩))
 rw[aJ,kw _ _ _ v,aa,de];refine aV (λd=>?_) (λd=>ae (.inr ⟨by simp,λg=>d g.2.1⟩))
 rw[cF,aa,de];refine aV (λn=>?_) (λn=>ae (.inr ⟨by simp,λg=>n g.2.2⟩))
 have z:=f.1.1;have x:=d.len (by omega);rw[B6 (by omega),aa];refine aD (Q:=eC a) ?_ λB s=>?_
 .refine di b.length (λi c=>c.2=(i:Int)/\eC a c.1) _ (λi c m k=>?_) (λc k=>?_) _ ⟨rfl,e6,λA u=>by rw[gx u];omega⟩
  .obtain⟨aK,t⟩:=c;obtain⟨rfl,e⟩:=k;dsimp only at e⊢;have o:b[i]?=c7 b[i]:=c6 m;have j:=d.mem (dd m);generalize b[i]=p at o j;have l:p<(aK.length:Int):=by rw[e.1];omega
   unfold HM;rw[aC,bn,o,aa,gH j.1 l,aa,iD j.1 l,aa,aJ];exact ae ⟨rfl,e.set _ (by omega)⟩
  .obtain⟨aK,t⟩:=c;obtain⟨rfl,e⟩:=k;dsimp only at e⊢;unfold HM;rw[aG];exact ae e
 .exact aD (Af f s) λr d=>ae (.inl ⟨rfl,d,rfl,f⟩)
def ajz(a:ak)(fl:List bI)(k:ak)(y:List bI)(m:bQ)(v:Int):Ok (uk LC a fl k y m v) λq=>((q.2=0/\eC k q.1.an/\k.ai.length=a.ai.length)\/(q.2≠0/\q.1=m)):=by
 unfold uk;rw[uW,aa,QM,aa,uW,aa,fh (fh (fh rfl)),aa];refine aV (λ_=>ae (.inr ⟨by simp,rfl⟩)) (λn=>?_)
 have j:lq a fl:=dv λh=>n (.inl h)
 have s:ud a m:=dv λh=>n (.inr (.inl h))
 have U:lq k y:=dv λh=>n (.inr (.inr (.inl h)))
 have al:(k.ai.length:Int)=a.ai.length:=dv λh=>n (.inr (.inr (.inr h)))
 rw[ew rfl,aa];refine aV (λ_=>ae (.inr ⟨by simp,rfl⟩)) (λag=>?_)
 have ad:=j.1.1;have ai:=j.1.2.1;have M:=s.2.1;have Z:=s.2.2.1;have Y:=eC.of s;rw[nS (by omega) (by omega),aa,dk];refine aD (Q:=eC a) ?_ λah K=>?_
 .refine di m.an.length (λi c=>c.2=(i:Int)/\eC a c.1) _ (λi c l e=>?_) (λc e=>?_) _ ⟨rfl,by rw[e6];exact M,λD A=>by rw[gx A];omega⟩
  .obtain⟨aK,t⟩:=c;obtain⟨rfl,d⟩:=e;dsimp only at d⊢;have af:=d.1;have A:=Y.2 _ (dd l);unfold Fi;rw[aC,bn,c6 l,aa,bn,c6 (show i<aK.length by omega),aa,dk,c6 (show i<aK.length by omega),aa,aJ];exact ae ⟨rfl,d.set _ (by omega)⟩
  .obtain⟨aK,t⟩:=c;obtain⟨rfl,d⟩:=e;dsimp only at d⊢;unfold Fi;rw[aG];exact ae d
 refine aD (Q:=eC a) ?_ λT z=>?_
 .refine di a.af.length (λi c=>c.2=(i:Int)/\eC a c.1) _ (λi c l e=>?_) (λc e=>?_) _ ⟨rfl,K⟩
  .obtain⟨aK,t⟩:=c;obtain⟨rfl,d⟩:=e;dsimp only at d⊢;have g:=(j.1.2.2.2 _ (dd l)).1;have x:i<fl.length:=by rw[j.2.1];exact l
   have C:=j.2.2 _ (dd x);unfold Ii;rw[aC,bn,c6 l,aa,bn,c6 x];generalize a.af[i]=r at g;generalize fl[i]=L at C;have stp:∀(p q:Int) (w:Bool) (f:List Int),(0<=p/\p<(a.ai.length:Int))->(0<=q/\q<(a.ai.length:Int))->eC a f->Ok (((aj m.an p).bind λD=>bif c5 (D<=v) then(c7 L).bind λS=>(n6 LC a (i:Int) S w).bind λG=>c7 (c5 (0<=G)) else c7 false).bind λI=>bif I then(aj f q).bind λ_=>(f[q.toNat]?).bind λ_=>c7 (f.set q.toNat v) else c7 f) (eC a):=by
    intro p q w f W o u;have B:q<(f.length:Int):=by rw[u.1];exact o.2
    rw[gH W.1 (by omega),aa,aa];refine aD (Q:=λ_=>True) (aV (λ_=>aD (Fe j.1 w C) λ_ _=>ae trivial) (λ_=>ae trivial)) λb _=>?_
    rw[gH o.1 B,aa,iD o.1 B,aa];exact dy (λ_=>ae (u.set _ (by omega))) (λ_=>ae u)
   obtain⟨X,N,P⟩:=stp r.an r.To false aK ⟨g.1,by omega⟩ ⟨g.2.2.1,by omega⟩ d;obtain⟨ac,O,H⟩:=stp r.To r.an true X ⟨g.2.2.1,by omega⟩ ⟨g.1,by omega⟩ P;obtain⟨ab,R,J⟩:=qQ N;obtain⟨am,V,F⟩:=qQ O;rw[R,aa,J,aa,V,aa,F,aa,aJ];exact ae ⟨rfl,H⟩
  .obtain⟨aK,t⟩:=c;obtain⟨rfl,d⟩:=e;dsimp only at d⊢;unfold Ii;rw[aG];exact ae d
 have E:eC k T:=⟨by rw[z.1];omega,z.2⟩;exact aD (Af U E) λr g=>ae (.inl ⟨rfl,g,by omega⟩)
def akv(a:ak)(fl:List bI)(k:ak)(u:List bI)(m:bQ)(w:Int):Ok (yg LC u a fl k m w) λq=>q.1=u/\((q.2.2=0/\eC k q.2.1.an/\k.ai.length=a.ai.length)\/(q.2.2≠0/\q.2.1=m)):=by
 unfold yg;rw[uW,aa,QM,aa,uW,aa,fh (fh (fh rfl)),aa];refine aV (λ_=>ae ⟨rfl,(.inr ⟨by simp,rfl⟩)⟩) (λn=>?_)
 have j:lq a fl:=dv λh=>n (.inl h)
 have s:ud a m:=dv λh=>n (.inr (.inl h))
 have U:lq k u:=dv λh=>n (.inr (.inr (.inl h)))
 have al:(k.ai.length:Int)=a.ai.length:=dv λh=>n (.inr (.inr (.inr h)))
 rw[ew rfl,aa];refine aV (λ_=>ae ⟨rfl,(.inr ⟨by simp,rfl⟩)⟩) (λag=>?_)
 have ad:=j.1.1;have ai:=j.1.2.1;have M:=s.2.1;have Z:=s.2.2.1;have Y:=eC.of s;rw[nS (by omega) (by omega),aa,dk];refine aD (Q:=eC a) ?_ λah K=>?_
 .refine di m.an.length (λi c=>c.2=(i:Int)/\eC a c.1) _ (λi c l e=>?_) (λc e=>?_) _ ⟨rfl,by rw[e6];exact M,λD A=>by rw[gx A];omega⟩
  .obtain⟨aK,t⟩:=c;obtain⟨rfl,d⟩:=e;dsimp only at d⊢;have af:=d.1;have A:=Y.2 _ (dd l);unfold Kc;rw[aC,bn,c6 l,aa,bn,c6 (show i<aK.length by omega),aa,dk,c6 (show i<aK.length by omega),aa,aJ];exact ae ⟨rfl,d.set _ (by omega)⟩
  .obtain⟨aK,t⟩:=c;obtain⟨rfl,d⟩:=e;dsimp only at d⊢;unfold Kc;rw[aG];exact ae d
 refine aD (Q:=eC a) ?_ λT z=>?_
 .refine di a.af.length (λi c=>c.2=(i:Int)/\eC a c.1) _ (λi c l e=>?_) (λc e=>?_) _ ⟨rfl,K⟩
  .obtain⟨aK,t⟩:=c;obtain⟨rfl,d⟩:=e;dsimp only at d⊢;have g:=(j.1.2.2.2 _ (dd l)).1;have y:i<fl.length:=by rw[j.2.1];exact l
   have C:=j.2.2 _ (dd y);unfold Jl;rw[aC,bn,c6 l,aa,bn,c6 y];generalize a.af[i]=r at g;generalize fl[i]=L at C;have stp:∀(p q:Int) (x:Bool) (f:List Int),(0<=p/\p<(a.ai.length:Int))->(0<=q/\q<(a.ai.length:Int))->eC a f->Ok (((aj m.an p).bind λD=>bif c5 (D<=w) then(c7 L).bind λS=>(n6 LC a (i:Int) S x).bind λG=>c7 (c5 (0<=G)) else c7 false).bind λI=>bif I then(aj f q).bind λ_=>(f[q.toNat]?).bind λ_=>c7 (f.set q.toNat w) else c7 f) (eC a):=by
    intro p q x f W o v;have B:q<(f.length:Int):=by rw[v.1];exact o.2
    rw[gH W.1 (by omega),aa,aa];refine aD (Q:=λ_=>True) (aV (λ_=>aD (Fe j.1 x C) λ_ _=>ae trivial) (λ_=>ae trivial)) λb _=>?_
    rw[gH o.1 B,aa,iD o.1 B,aa];exact dy (λ_=>ae (v.set _ (by omega))) (λ_=>ae v)
   obtain⟨X,N,P⟩:=stp r.an r.To false aK ⟨g.1,by omega⟩ ⟨g.2.2.1,by omega⟩ d;obtain⟨ac,O,H⟩:=stp r.To r.an true X ⟨g.2.2.1,by omega⟩ ⟨g.1,by omega⟩ P;obtain⟨ab,R,J⟩:=qQ N;obtain⟨am,V,F⟩:=qQ O;rw[R,aa,J,aa,V,aa,F,aa,aJ];exact ae ⟨rfl,H⟩
  .obtain⟨aK,t⟩:=c;obtain⟨rfl,d⟩:=e;dsimp only at d⊢;unfold Jl;rw[aG];exact ae d
 have E:eC k T:=⟨by rw[z.1];omega,z.2⟩;exact aD (Af U E) λr g=>ae ⟨rfl,(.inl ⟨rfl,g,by omega⟩)⟩
def ia(a:Int):Prop:=0<=a/\a<=2147483648
instance (a:Int):Decidable (ia a):=by unfold ia;infer_instance
def RA(a:cy):Prop:=(ia a.abv/\ia a.eB/\ia a.ku/\ia a.mZ)/\(1<=a.anS/\a.anS<=4)/\(1<=a.pB/\a.pB<=2147483648)/\(if a.sd=true then a.l9=0 else(a.ku<=a.l9/\a.l9<=2147483648)/\a.uV=false)
instance (a:cy):Decidable (RA a):=by unfold RA;infer_instance
def ahx(a:cy):Dg LC a=c7 (c5 (RA a)):=by
 unfold Dg;have m:bO (λk=>xP LC a k) 0=c7 (if ∀i,i<([a.abv,a.eB,a.ku,a.mZ]:List Int).length->(λi:Nat=>!c5 (ia (([a.abv,a.eB,a.ku,a.mZ]:List Int).getD i 0))) i=false then .inr () else .inl ()):=by
  refine oD ([a.abv,a.eB,a.ku,a.mZ]:List Int).length _ () (λi f=>?_) (by unfold xP;rfl)
  have n:i<4:=f;unfold xP;rw[aC,uu f,aa,cF,aa,aJ];show(bif (!c5 (ia _)) then _ else _)=c7 (bif !c5 (ia _) then _ else _)
  cases c5 (ia ([a.abv,a.eB,a.ku,a.mZ].getD i 0)) <;> rfl
 rw[show LC.loop (λk=>xP LC a k) 0=_ from m,aa,cF,aa,cF,aa,cF,aa,lA,fh rfl,aa]
 by_cases c:ia a.abv/\ia a.eB/\ia a.ku/\ia a.mZ
 .rw[if_pos (λi f=>by
   have f:i<4:=f;have:i=0\/i=1\/i=2\/i=3:=by omega
   have h:∀{p:Prop} [Decidable p],p->(!decide p)=false:=λb=>by rw[decide_eq_true b];rfl
   rcases this with rfl |rfl |rfl |rfl
   .exact h c.1
   .exact h c.2.1
   .exact h c.2.2.1
   .exact h c.2.2.2),ei]
  by_cases e:(1<=a.anS/\a.anS<=4)/\1<=a.pB/\a.pB<=2147483648
  .rw[aG];cases d:a.sd with
   |true=>
    simp only[cond_true]
    congr 1
    exact decide_eq_decide.2 ⟨λb=>⟨c,e.1,e.2,by rw[if_pos d];exact b⟩,λb=>by have:=b.2.2.2;rw[if_pos d] at this;exact this⟩
   |false=>
    simp only[cond_false]
    by_cases j:a.ku<=a.l9/\a.l9<=2147483648
    .rw[aC j]
     congr 1
     cases l:a.uV with
     |true=>exact(decide_eq_false (show ¬RA a from λb=>by have:=b.2.2.2;rw[if_neg (by rw[d];simp),l] at this;exact absurd this.2 (by simp))).symm
     |false=>exact(decide_eq_true (show RA a from⟨c,e.1,e.2,by rw[if_neg (by rw[d];simp)];exact⟨j,l⟩⟩)).symm
    .rw[aG j,decide_eq_false (show ¬RA a from λb=>by have:=b.2.2.2;rw[if_neg (by rw[d];simp)] at this;exact j this.1)]
  .rw[aC,decide_eq_false (show ¬RA a from λb=>e ⟨b.2.1,b.2.2.1⟩)]
 .rw[if_neg (λg=>c ⟨by simpa using g 0 (by simp),by simpa using g 1 (by simp),by simpa using g 2 (by simp),by simpa using g 3 (by simp)⟩),ft,decide_eq_false (show ¬RA a from λb=>c b.1)]
def fU(a:cy)(b c:Int):Prop:=a.abv<b\/a.abv=b/\a.eB<c
instance (c:cy) (a b:Int):Decidable (fU c a b):=by unfold fU;infer_instance
def fX(a:cy)(b c:Int):Prop:=a.abv=b/\a.eB=c
def jz(a b:cy):Prop:=fU a b.abv b.eB
instance (a b:cy):Decidable (jz a b):=by unfold jz;infer_instance
def Ia(b:cy)(d a:Int):∃h,rK LC b ⟨d,a⟩=c7 h/\(h<0↔fU b d a)/\(h=0↔fX b d a):=by
 unfold rK;dsimp only;rw[G1,aa,G1,aa];have j:CY LC [kG b.abv d,kG b.eB a]=c7 (if kG b.abv d≠0 then kG b.abv d else kG b.eB a):=by
  unfold CY;generalize kG b.abv d=e;generalize kG b.eB a=c
  by_cases f:e=0
  .rw[if_neg (λk=>k f)]
   by_cases i:c=0
   .subst f i;rw[show LC.loop (λa=>qF LC [0,0] a) 0=c7 (.inr ()) from(iO (a':=1) rfl).trans ((iO (a':=2) rfl).trans (fZ rfl))]
    rfl
   .subst f;have g:qF LC [0,c] 1=c7 (.inr (.inl c)):=by
     unfold qF;rw[aC (by simp),show aj [0,c] 1=c7 c from rfl,aa,aC i]
    rw[show LC.loop (λa=>qF LC [0,c] a) 0=c7 (.inl c) from(iO (a':=1) rfl).trans (fZ g)]
    rfl
  .rw[if_pos f];have g:qF LC [e,c] 0=c7 (.inr (.inl e)):=by
    unfold qF;rw[aC (by simp),show aj [e,c] 0=c7 e from rfl,aa,aC f]
   rw[show LC.loop (λa=>qF LC [e,c] a) 0=c7 (.inl e) from fZ g]
   rfl
 rw[j,aa];refine⟨_,rfl,?_,?_⟩
 .unfold fU kG
  split <;> split <;> (try split) <;> (try split) <;> omega
 .unfold fX kG
  split <;> split <;> (try split) <;> (try split) <;> omega
def VA(a:List cy):Prop:=a.length<=64/\(∀b∈a,RA b)/\a.Pairwise jz
noncomputable instance (a:List cy):Decidable (VA a):=m4 _
def Rl{e:Type}{R:e->e->Prop}(tr:∀a b d,R a b->R b d->R a d):∀c:List e,(∀i (g:i+1<c.length),R c[i] c[i+1])->c.Pairwise R
 |[],_=>.nil
 |[a],_=>List.pairwise_singleton R a
 |a::b::c,g=>by
  have j:=Rl tr (b::c) λi k=>g (i+1) (by simpa using k)
  have h:R a b:=g 0 (by simp);refine l4.2 ⟨λd f=>?_,j⟩
  rcases kl.1 f with rfl |f
  .exact h
  .exact tr _ _ _ h ((l4.1 j).1 d f)
def aka(a:List cy):yE LC a=c7 (c5 (VA a)):=by
 unfold yE
 by_cases j:64<(a.length:Int)
 .rw[aC j,decide_eq_false (λe=>by have:=e.1;omega)]
 rw[aG j];have s:bO (λg=>vH LC a g) 0=c7 (if ∀i,i<a.length->(λi:Nat=>match a[i]? with |some d=>c5 (¬RA d)||(match (if 0<i then a[i -1]? else j4) with |some b=>c5 (¬fU b d.abv d.eB) |none=>false) |none=>false) i=false then .inr () else .inl ()):=by
  refine oD _ _ () (λi c=>?_) (by unfold vH;rw[aG])
  unfold vH;rw[aC,bn,c6 c,aa,ahx,aa,aJ (n:=(i:Int)+1)];simp only[c6 c];have h:(bif c5 (0<(i:Int)) then(aj a (c3 c4 ((i:Int) -1))).bind λu=>(rK LC u (kC.mk a[i].abv a[i].eB)).bind λo=>c7 (c5 (0<=o)) else c7 false)=c7 (match (if 0<i then a[i -1]? else j4) with |some b=>c5 (¬fU b a[i].abv a[i].eB) |none=>false):=by
   by_cases h0:0<i
   .obtain⟨p,q,h,w⟩:=Ia (a[i -1]'(by omega)) a[i].abv a[i].eB;rw[aC,aJ,show(i:Int) -1=((i -1:Nat):Int) by omega,bn,c6 (show i -1<a.length by omega),aa,q,aa,if_pos h0];dsimp only
    congr 1
    apply decide_eq_decide.2
    rw[<-h];omega
   .rw[aG,if_neg h0]
  rw[h,M5 rfl,aa, <-decide_not];cases (c5 (¬RA a[i])||(match (if 0<i then a[i -1]? else j4) with |some b=>c5 (¬fU b a[i].abv a[i].eB) |none=>false)) <;> rfl
 rw[show LC.loop (λg=>vH LC a g) 0=_ from s,aa];have l:(∀i,i<a.length->(λi:Nat=>match a[i]? with |some d=>c5 (¬RA d)||(match (if 0<i then a[i -1]? else j4) with |some b=>c5 (¬fU b d.abv d.eB) |none=>false) |none=>false) i=false)↔VA a:=by
  constructor
  .intro e;refine⟨by omega,λd r=>?_,Rl (R:=jz) (λd b p j v=>by unfold jz fU at*;omega) a λi c=>?_⟩
   .obtain⟨i,c,rfl⟩:=e5.1 r;have:=e i c;simp only[c6 c,j2] at this;exact dv (of_decide_eq_false this.1)
   .have:=e (i+1) c;simp only[c6 c,j2,Nat.zero_lt_succ,if_true,o2,c6 (show i<a.length by omega)] at this;exact dv (of_decide_eq_false this.2)
  .rintro⟨_,m,t⟩ i c;simp only[c6 c,j2];refine⟨decide_eq_false λk=>k (m _ (dd c)),?_⟩
   by_cases h0:0<i
   .rw[if_pos h0,c6 (show i -1<a.length by omega)];exact decide_eq_false λk=>k (h7.1 t (i -1) i (by omega) c (by omega))
   .rw[if_neg h0]
 by_cases f:VA a
 .rw[if_pos (l.2 f),decide_eq_true f];rfl
 .rw[if_neg (λe=>f (l.1 e)),decide_eq_false f];rfl
def alS(d:List cy)(g f:Int)(G:d.Pairwise jz)(O:d.length<=64):Ok (Ec LC d ⟨g,f⟩) λq=>∃n:Nat,q.1=(n:Int)/\n<=d.length/\(∀(a:Nat) c,a<n->d[a]?=c7 c->fU c g f)/\(∀(a:Nat) c,n<=a->d[a]?=c7 c->¬fU c g f)/\(q.2=true->∃c,d[n]?=c7 c/\fX c g f)/\(q.2=false->∀c,d[n]?=c7 c->¬fX c g f):=by
 have y:∀(i a:Nat) c b,i<a->d[i]?=c7 c->d[a]?=c7 b->fU b g f->fU c g f:=λi a c b L e m j=>by
  obtain⟨I,rfl⟩:=dt.1 e;obtain⟨K,rfl⟩:=dt.1 m;have:=h7.1 G i a I K L;unfold jz fU at*;omega
 unfold Ec;refine aD (Q:=λp=>∃n:Nat,p=(n:Int)/\n<=d.length/\(∀(a:Nat) c,a<n->d[a]?=c7 c->fU c g f)/\(∀(a:Nat) c,n<=a->d[a]?=c7 c->¬fU c g f)) ?_ λp s=>?_
 .refine oa (λk:Int×Int=>∃i a:Nat,k=((i:Int),(a:Int))/\i<=a/\a<=d.length/\(∀(h:Nat) c,h<i->d[h]?=c7 c->fU c g f)/\(∀(h:Nat) c,a<=h->d[h]?=c7 c->¬fU c g f)) (λk=>(k.2 -k.1).toNat) _ (λk H=>?_) _ ⟨0,d.length,rfl,p0 _,h8 _,λh c j=>by omega,λh c j e=>by have:=(dt.1 e).1;omega⟩
  obtain⟨i,a,rfl,N,B,D,E⟩:=H;dsimp only;unfold Rt;refine aV (λJ=>?_) (λJ=>?_)
  .have l:(i+a)/2<d.length:=by omega
   have F:iN .u64 (hQ.wrap (c3 c4 ((i:Int)+(a:Int)))) 1=c7 (((i+a)/2:Nat):Int):=by
    rw[aJ (n:=(i:Int)+a),mB (n:=(i:Int)+a) (by omega) (by omega),AD (by omega),show(2:Int)^ (min (1:Int).toNat hQ.bits)=2 from rfl,ih _ (by omega)]
    congr 1
   obtain⟨k,t,u,v⟩:=Ia d[(i+a)/2] g f;rw[F,aa,aJ (n:=(((i+a)/2:Nat):Int)) (by omega) (by omega),bn,c6 l,aa,t,aa];refine aD (Q:=λp=>(k<0/\p=((((i+a)/2+1:Nat):Int),(a:Int)))\/(¬k<0/\p=((i:Int),(((i+a)/2:Nat):Int)))) (aV (λo=>?_) (λo=>ae (.inr ⟨o,rfl⟩))) λp s=>?_
   .rw[aJ];exact ae (.inl ⟨o,rfl⟩)
   .rcases s with⟨o,rfl⟩ |⟨o,rfl⟩
    .refine ae ⟨⟨(i+a)/2+1,a,rfl,by omega,B,λh c M e=>?_,E⟩,?_⟩
     .have m:=u.1 o
      by_cases w:h=(i+a)/2
      .subst w;rw[c6 l] at e;injection e with e
       subst e;exact m
      .exact y h _ c _ (by omega) e (c6 l) m
     .dsimp only;omega
    .refine ae ⟨⟨i,(i+a)/2,rfl,by omega,by omega,D,λh c M e m=>?_⟩,?_⟩
     .have A:¬fU d[(i+a)/2] g f:=λj=>o (u.2 j)
      by_cases w:h=(i+a)/2
      .subst w;rw[c6 l] at e;injection e with e
       subst e;exact A m
      .exact A (y _ h _ c (by omega) (c6 l) e m)
     .dsimp only;omega
  .have:i=a:=by omega
   subst this;exact ae ⟨i,rfl,B,D,E⟩
 .obtain⟨n,rfl,z,x,C⟩:=s
  by_cases r:n<d.length
  .obtain⟨k,t,u,v⟩:=Ia d[n] g f;rw[aC,bn,c6 r,aa,t,aa];refine ae ⟨n,rfl,z,x,C,λj=>⟨_,c6 r,v.1 (of_decide_eq_true j)⟩,λj c e=>?_⟩
   rw[c6 r] at e;injection e with e
   subst e;exact λl=>of_decide_eq_false j (v.2 l)
  .rw[aG];exact ae ⟨n,rfl,z,x,C,λj=>by simp at j,λ_ c e=>absurd (dt.1 e).1 r⟩
def ak8{f:List cy}(m:f.Pairwise jz){c:Nat}{e b:cy}(o:f[c]?=c7 e)(a:b.abv=e.abv/\b.eB=e.eB):(f.set c b).Pairwise jz:=by
 refine h7.2 λi k l h n=>?_
 rw[dT] at l h;have d:=h7.1 m i k l h n;obtain⟨p,rfl⟩:=dt.1 o;rw[oo,oo];unfold jz fU at*
 by_cases j:c=i
 .subst j;rw[if_pos rfl,if_neg (by omega),a.1,a.2];exact d
 .rw[if_neg j]
  by_cases g:c=k
  .subst g;rw[if_pos rfl,a.1,a.2];exact d
  .rw[if_neg g];exact d
def ZH{c:List cy}(j:c.Pairwise jz){a:Nat}{b:cy}(w:a<=c.length)(q:∀(d:Nat) e,d<a->c[d]?=c7 e->fU e b.abv b.eB)(l:∀(d:Nat) e,a<=d->c[d]?=c7 e->¬fU e b.abv b.eB)(t:∀e,c[a]?=c7 e->¬fX e b.abv b.eB):(c.take a++[b]++c.drop a).Pairwise jz:=by
 rw[hB,List.pairwise_append];have m:∀g,g∈c.drop a->jz b g:=λg h=>by
  obtain⟨d,k,rfl⟩:=e5.1 h;rw[h5] at k;have f:c[a+d]?=c7 ((c.drop a)[d]'(by rw[h5];exact k)):=by rw[List.getElem_drop];exact c6 (by omega)
  have r:=l (a+d) _ (by omega) f;generalize (c.drop a)[d]'(by rw[h5];exact k)=g at f r;have h0:=t _ (c6 (show a<c.length by omega));have v:=l a _ (h8 _) (c6 (show a<c.length by omega))
  by_cases u:d=0
  .subst u;rw[q8,c6 (show a<c.length by omega)] at f;injection f with f
   subst f;unfold jz fU fX at*;omega
  .obtain⟨p,rfl⟩:=dt.1 f;have:=h7.1 j a (a+d) (by omega) p (by omega);unfold jz fU fX at*;omega
 refine⟨j.sublist (List.take_sublist a c),l4.2 ⟨m,j.sublist (List.drop_sublist a c)⟩,λe s g h=>?_⟩
 obtain⟨i,n,rfl⟩:=e5.1 s;rw[ea] at n;have o:jz ((c.take a)[i]'(by rw[ea];exact n)) b:=by
  refine q i _ (by omega) ?_
  rw[o6];exact c6 (by omega)
 rcases kl.1 h with rfl |h
 .exact o
 .have:=m g h;unfold jz fU at*;omega
def apS(d:List cy)(j h p g:Int):Ok (rk LC d j h p g) λq=>(q.2≠0/\q.1=d)\/(q.2=0/\VA q.1/\(∃c,c∈q.1/\fX c j h)/\∀b,b∈d->∃c,c∈q.1/\fX c b.abv b.eB):=by
 unfold rk;rw[aka,aa,de];refine aV (λQ=>?_) (λ_=>ae (.inl ⟨by simp,rfl⟩))
 obtain⟨u,o,v⟩:=Q;rw[cF,aa,cF,aa,cF,aa,lA,fh (fh rfl),aa];refine aV (λ_=>ae (.inl ⟨by simp,rfl⟩)) (λk=>?_)
 have D:ia j:=by unfold ia;omega
 have F:ia h:=by unfold ia;omega
 have A:1<=p/\p<=4:=by omega
 refine aD (alS d j h v u) λq L=>?_
 obtain⟨e,G,U,O,S,z,J⟩:=L;obtain⟨X,s⟩:=q;dsimp only at G z J⊢;subst G;rw[cF,aa];have C:s=true->e<d.length:=λk=>by obtain⟨c,a,_⟩:=z k;exact(dt.1 a).1
 by_cases B:0<=g/\g<=2147483648
 rotate_left
 .rw[decide_eq_false B];exact ae (.inl ⟨by simp,rfl⟩)
 have H:ia g:=B;rw[decide_eq_true B];simp only[fe,cond_false];have bad:∃b:Bool,(bif s then(aj d (e:Int)).bind λV=>bif c5 (g<V.ku) then c7 true else(aj d (e:Int)).bind λN=>c7 (c5 (g<N.l9)) else c7 false)=c7 b:=by
  cases s with
  |false=>exact⟨_,rfl⟩
  |true=>
   have l:=C rfl;simp only[cond_true];rw[bn,c6 l,aa,aa,ew rfl];exact⟨_,rfl⟩
 obtain⟨b,R⟩:=bad;rw[R,aa];refine dy (λ_=>ae (.inl ⟨by simp,rfl⟩)) (λ_=>?_)
 cases s with
 |false=>
  simp only[k7,cond_true];refine aV (λ_=>ae (.inl ⟨by simp,rfl⟩)) (λW=>?_)
  rw[wE (cX u (by decide)),aa];have t:D3 LC d [cy.mk j h p g 0 true false 0 1] (e:Int)=c7 (d.take e++[cy.mk j h p g 0 true false 0 1]++d.drop e):=by
   unfold D3 B2;rw[if_pos ⟨by omega,by omega,rfl⟩,dm (by decide) (by omega),aa,dk]
  rw[t,aa];refine ae (.inr ⟨rfl,⟨?_,λc a=>?_,ZH v U O S (J rfl)⟩,⟨cy.mk j h p g 0 true false 0 1,by simp,rfl,rfl⟩,λc a=>⟨c,?_,rfl,rfl⟩⟩)
  .simp only[eo,ea,h5,ey,hL];omega
  .rcases e4.1 a with a |a
   .rcases e4.1 a with a |a
    .exact o c (List.mem_of_mem_take a)
    .rw[e0] at a;subst a;exact⟨⟨D,F,H,by show(0:Int)<=0/\(0:Int)<=2147483648;omega⟩,A,⟨by show(1:Int)<=1;omega,by show(1:Int)<=2147483648;omega⟩,by simp⟩
   .exact o c (List.mem_of_mem_drop a)
  .have:c∈d.take e++d.drop e:=by rw[List.take_append_drop];exact a
   rcases e4.1 this with k |k
   .simp[k]
   .simp[k]
 |true=>
  simp only[fe,cond_false];obtain⟨c,a,y⟩:=z rfl;have l:=C rfl;have P:=o c (fC a);rw[wE (cX u (by decide)),aa,bn,a,aa,dk,a];simp only[aa];have fin:∀f:cy,f.abv=c.abv/\f.eB=c.eB->RA f->Ok (c7 (d.set e f,(0:Int))) λq=>(q.2≠0/\q.1=d)\/(q.2=0/\VA q.1/\(∃c,c∈q.1/\fX c j h)/\∀b,b∈d->∃c,c∈q.1/\fX c b.abv b.eB):=λf n T=>by
   refine ae (.inr ⟨rfl,⟨by rw[dT];exact u,λK m=>?_,ak8 v a n⟩,⟨f,qa l f,by unfold fX at*;rw[n.1,n.2];exact y⟩,λK m=>?_⟩)
   .rcases ev m with m |rfl
    .exact o K m
    .exact T
   .obtain⟨i,I,rfl⟩:=e5.1 m
    by_cases t:e=i
    .subst t;rw[c6 I] at a;injection a with a
     exact⟨f,qa l f,by unfold fX;rw[n.1,n.2,a];exact⟨rfl,rfl⟩⟩
    .exact⟨d[i],hP.2 ⟨i,by rw[h9 t];exact c6 I⟩,rfl,rfl⟩
  obtain⟨r,M,E,w⟩:=P;rw[de];refine dy (λx=>?_) (λx=>?_)
  .refine aV (λY=>?_) (λ_=>?_)
   .rw[gv l,aa,set_set];rw[if_pos x] at w;exact fin _ ⟨rfl,rfl⟩ ⟨⟨r.1,r.2.1,r.2.2.1,by unfold ia;dsimp only;omega⟩,A,E,by rw[if_pos x];exact w⟩
   .have:=fin c ⟨rfl,rfl⟩ ⟨r,M,E,w⟩;rw[ou a] at this;exact this
  .rw[aJ];exact fin _ ⟨y.1.symm,y.2.symm⟩ ⟨⟨D,F,H,by unfold ia;dsimp only;omega⟩,A,⟨by dsimp only;omega,by dsimp only;omega⟩,by simp⟩
def uJ(a:List Int):Prop:=(1<=(a.length:Int)/\(a.length:Int)<=12)/\cj 0 127 a
instance (a:List Int):Decidable (uJ a):=by unfold uJ;infer_instance
def Nq{a:List Int}(b:Fit a):xa LC a=c7 (c5 (uJ a)):=by
 unfold xa;rw[cF,aa,kw _ _ _ b,aa];exact fm rfl
def ff(a:bA):Prop:=uJ a.af/\a.aa2.length=a.af.length/\(∀b,b∈a.aa2->0<=b/\b<=2)/\(a.Out=true->∀b,b∈a.aa2->b=2)
instance (a:bA):Decidable (ff a):=by unfold ff;infer_instance
def QJ{a:bA}(e:Fit a.aa2):yh LC a=c7 (c5 (∀c,c∈a.aa2->c=2)):=by
 unfold yh IU JN;have:=fF (l:=a.aa2) (P:=λd=>CE LC d) (p:=λc=>!c5 (c=2)) (f:=λb=>JW LC a.aa2 b) e (λd g=>by
  unfold CE;rw[<-decide_not]) (λb=>rfl)
 rw[show(LC.loop (λb=>JW LC a.aa2 b) 0).bind _=_ from this,aa,gm,aa,ot]
def tA{a:bA}(m:Fit a.af):oL LC a=c7 (c5 (ff a)):=by
 unfold oL;rw[Nq m,aa]
 by_cases d:uJ a.af
 rotate_left
 .rw[aG d,decide_eq_false (λb=>d b.1)]
 rw[aC d]
 by_cases h:(a.aa2.length:Int)=(a.af.length:Int)
 rotate_left
 .rw[aG h,decide_eq_false (λb=>h (by have:=b.2.1;omega))]
 have k:Fit a.aa2:=by show a.aa2.length<=_;have:a.af.length<=_:=m;omega
 have n:zw LC a.aa2=c7 (a.aa2.any λc=>!c5 (0<=c/\c<=2)):=by
  unfold zw F6;have:=fF (l:=a.aa2) (P:=λi=>zz LC i) (p:=λc=>!c5 (0<=c/\c<=2)) (f:=λg=>It LC a.aa2 g) k (λi o=>by
   unfold zz;rw[cF,aa]) (λg=>rfl)
  rw[show(LC.loop (λg=>It LC a.aa2 g) 0).bind _=_ from this,aa,gm]
 rw[aC h,n,aa,ot]
 by_cases e:∀c,c∈a.aa2->0<=c/\c<=2
 rotate_left
 .rw[aG e,decide_eq_false (λb=>e b.2.2.1)]
 rw[aC e,QJ k,aa];cases j:a.Out with
 |false=>simp only[k7,cond_true];rw[decide_eq_true (show ff a from⟨d,by omega,e,λb=>by rw[j] at b;cases b⟩)]
 |true=>
  simp only[fe,cond_false]
  congr 1
  exact decide_eq_decide.2 ⟨λb=>⟨d,by omega,e,λ_=>b⟩,λb=>b.2.2.2 j⟩
def ff.sm{k:bA}(h:ff k):Sm k.af/\Sm k.aa2:=⟨cX (n:=12) (by have:=h.1.1;omega) (by decide),cX (n:=12) (by have:=h.1.1;have:=h.2.1;omega) (by decide)⟩
def Dx{k:bA}(i a b:Int)(j:Fit k.af):Ok (qO LC k i a b) λq=>(q.2≠0/\q.1=k)\/(q.2=0/\ff k/\0<=i/\k.aa2[i.toNat]?=c7 a/\k.Out=false/\q.1=⟨k.af,k.aa2.set i.toNat b,false⟩):=by
 unfold qO;rw[tA j,aa,de];refine aV (λc=>?_) (λ_=>ae (.inl ⟨by simp,rfl⟩))
 have l:=c.1.1;have m:=c.2.1;rw[aJ,cF,aa,de];refine aV (λh=>?_) (λ_=>ae (.inl ⟨by simp,rfl⟩))
 have d:k.aa2[i.toNat]?=c7 (k.aa2[i.toNat]'(by omega)):=c6 (by omega);generalize k.aa2[i.toNat]'(by omega)=v at d;have f:aj k.aa2 i=c7 v:=by unfold aj;rw[if_pos h.1];exact d
 unfold IL;rw[f,aa,bV c.sm.1,aa,bV c.sm.2,aa,aa];dsimp only;rw[f,aa,d,aa]
 by_cases e:v≠a
 .rw[aC e,aa];exact ae (.inl ⟨by simp,rfl⟩)
 .rw[aG e,aa];refine dy (λ_=>ae (.inl ⟨by simp,rfl⟩)) (λg=>ae (.inr ⟨rfl,c,h.1,?_,g,by rw[g]⟩))
  rw[ej.1 e]
def ff.move{k:bA}(h:ff k){i:Nat}{b:Int}(c:0<=b/\b<=2):ff ⟨k.af,k.aa2.set i b,false⟩:=⟨h.1,by show(k.aa2.set i b).length=_;rw[dT];exact h.2.1,λn a=>by
 rcases ev (show n∈k.aa2.set i b from a) with a |rfl
 .exact h.2.2.1 n a
 .exact c,λh=>by cases h⟩
def ap1{k:bA}(e:Fit k.af):Ok (Cu LC k) λq=>(q.2≠0/\q.1=k)\/(q.2=0/\ff k/\k.Out=false/\(∀a,a∈k.aa2->a=2)/\q.1=⟨k.af,k.aa2,true⟩):=by
 unfold Cu;refine aD (Q:=λq=>(q.2≠0/\q.1=k)\/(q.2=0/\ff k/\k.Out=false/\(∀a,a∈k.aa2->a=2)/\q.1=⟨k.af,k.aa2,true⟩)) ?_ λq c=>ae c
 unfold xi;rw[tA e,aa,de];refine aV (λb=>?_) (λ_=>ae (.inl ⟨by simp,rfl⟩))
 unfold EA;rw[QJ (by show k.aa2.length<=_;have:=jZ b.sm.2;omega),bV b.sm.1,bV b.sm.2];simp only[aa];cases f:k.Out with
 |true=>exact ae (.inl ⟨by simp,rfl⟩)
 |false=>
  simp only[cond_true,show(false==true)=false from rfl,cond_false,aa,de];exact aV (λd=>ae (.inr ⟨rfl,b,by simp,d,rfl⟩)) (λ_=>ae (.inl ⟨by simp,rfl⟩))
def Zw{k:bA}(c:Fit k.af):Ok (vQ LC k) λq=>(q.2≠0/\q.1=k)\/(q.2=0/\ff k/\q.1=⟨k.af,k.aa2,false⟩):=by
 unfold vQ;refine aD (Q:=λq=>(q.2≠0/\q.1=k)\/(q.2=0/\ff k/\q.1=⟨k.af,k.aa2,false⟩)) ?_ λq b=>ae b
 unfold xi;rw[tA c,aa,de];refine aV (λa=>?_) (λ_=>ae (.inl ⟨by simp,rfl⟩))
 unfold EA;rw[bV a.sm.1,bV a.sm.2];simp only[aa];cases d:k.Out with
 |false=>exact ae (.inl ⟨by simp,rfl⟩)
 |true=>
  simp only[show(true==false)=false from rfl,cond_false,aa];exact ae (.inr ⟨rfl,a,rfl⟩)
def O5{k:bA}(u:k.af.length<=100)(s:k.aa2.length<=100):Ok (yA LC k) λe=>e.length<=k.af.length/\∀r,r∈e↔∃(i:Nat) (n:Int),k.af[i]?=c7 r/\k.aa2[i]?=c7 n/\n≠0:=by
 unfold yA;refine aD (Q:=λe=>e.length<=k.af.length/\∀r,r∈e↔∃(i:Nat) (n:Int),k.af[i]?=c7 r/\k.aa2[i]?=c7 n/\n≠0) ?_ λe v=>?_
 .refine di k.af.length (λi f=>f.2=(i:Int)/\f.1.length<=i/\∀r,r∈f.1↔∃(a:Nat) (n:Int),a<i/\k.af[a]?=c7 r/\k.aa2[a]?=c7 n/\n≠0) _ (λi f y p=>?_) (λf p=>?_) _ ⟨rfl,h8 _,λr=>⟨λd=>(by cases d),λ⟨a,n,d,_⟩=>by omega⟩⟩
  .obtain⟨e,w⟩:=f;obtain⟨rfl,m,g⟩:=p;dsimp only at m g⊢;have l:k.af[i]?=c7 k.af[i]:=c6 y;generalize k.af[i]=z at l;unfold HU;rw[aC,bn,l,aa];have c:(bif c5 ((i:Int)<(k.aa2.length:Int)) then(aj k.aa2 (i:Int)).bind λx=>c7 (c5 (x≠0)) else c7 false)=c7 (c5 (∃n,k.aa2[i]?=c7 n/\n≠0)):=by
    by_cases d:(i:Int)<(k.aa2.length:Int)
    .have t:k.aa2[i]?=c7 (k.aa2[i]'(by omega)):=c6 (by omega);generalize k.aa2[i]'(by omega)=n at t;rw[aC d,bn,t,aa]
     congr 1
     exact decide_eq_decide.2 ⟨λq=>⟨n,rfl,q⟩,λ⟨A,c,q⟩=>by injection c with c;subst c;exact q⟩
    .rw[aG d]
     congr 1
     exact(decide_eq_false λ⟨n,c,_⟩=>by rw[ie (by omega)] at c;cases c).symm
   rw[c,aa]
   by_cases d:∃n,k.aa2[i]?=c7 n/\n≠0
   .rw[aC d,dm (by decide) (by omega),aa,aa,aJ];refine ae ⟨rfl,by simp;omega,λr=>?_⟩
    dsimp only;rw[e4,g,e0]
    constructor
    .rintro(⟨a,n,o,b⟩ |rfl)
     .exact⟨a,n,by omega,b⟩
     .obtain⟨n,u,s⟩:=d;exact⟨i,n,by omega,l,u,s⟩
    .rintro⟨a,n,o,b,h,j⟩
     by_cases c:a=i
     .subst c;rw[l] at b;injection b with b;exact .inr b.symm
     .exact .inl ⟨a,n,by omega,b,h,j⟩
   .rw[aG d,aa,aJ];refine ae ⟨rfl,by dsimp only;omega,λr=>?_⟩
    dsimp only;rw[g]
    constructor
    .rintro⟨a,n,o,b⟩;exact⟨a,n,by omega,b⟩
    .rintro⟨a,n,o,b,h,j⟩
     by_cases c:a=i
     .subst c;exact absurd ⟨n,h,j⟩ d
     .exact⟨a,n,by omega,b,h,j⟩
  .obtain⟨e,w⟩:=f;obtain⟨rfl,m,g⟩:=p;dsimp only at m g⊢;unfold HU;rw[aG];refine ae ⟨m,λr=>?_⟩
   rw[g];exact⟨λ⟨a,n,o,b⟩=>⟨a,n,b⟩,λ⟨a,n,b⟩=>⟨a,n,(dt.1 b.1).1,b⟩⟩
 .rw[zF (cX (n:=100) (by omega) (by decide)),aa];exact ae ⟨by rw[uP];exact v.1,λr=>by rw[(uK e).mem_iff];exact v.2 r⟩
def rR(a:cd):Prop:=a.bT.length≠0/\cj 0 63 a.bT/\(1<=a.dZ/\a.dZ<=100000)/\1<=a.ed/\a.ed<=100000
instance (a:cd):Decidable (rR a):=by unfold rR;infer_instance
def mW(a:b7):Prop:=(0<=a.aa0/\a.aa0<=2147483648)/\(if a.State=0 then a.dD=0/\a.akU=0/\a.aa0=0 else if a.State=1 then 0<a.dD/\a.akU=0 else(a.State=2\/a.State=3\/a.State=4)/\0<a.dD/\0<a.akU/\a.dD≠a.akU)
instance (a:b7):Decidable (mW a):=by unfold mW;infer_instance
def AH{g:cd}{a:b7}(o:Fit g.bT):oT LC g a=c7 (c5 (rR g/\mW a)):=by
 unfold oT;rw[kw _ _ _ o,aa,cF,aa,cF,aa,cF,aa,lA,fh (fh (fh rfl)),ew rfl,aa]
 by_cases c:rR g/\0<=a.aa0/\a.aa0<=2147483648
 rotate_left
 .rw[aC (by
   refine dv λh=>c ?_
   simp only[not_or,ej] at h;exact⟨⟨by omega,h.2.1,h.2.2.1,h.2.2.2.1⟩,h.2.2.2.2⟩),decide_eq_false (λb=>c ⟨b.1,b.2.1⟩)]
 obtain⟨f,i⟩:=c;rw[aG (by
  have q:=f.1;rintro(b |b |b |b |b)
  .omega
  .exact b f.2.1
  .exact b f.2.2.1
  .exact b f.2.2.2
  .exact b i)]
 have fin:∀(p:Prop) [Decidable p],((if a.State=0 then a.dD=0/\a.akU=0/\a.aa0=0 else if a.State=1 then 0<a.dD/\a.akU=0 else(a.State=2\/a.State=3\/a.State=4)/\0<a.dD/\0<a.akU/\a.dD≠a.akU)↔p)->c7 (decide p)=c7 (c5 (rR g/\mW a)):=λp _ b=>by
  congr 1
  exact decide_eq_decide.2 ⟨λn=>⟨f,i,b.2 n⟩,λj=>b.1 j.2.2⟩
 by_cases h0:a.State=0
 .rw[aC h0];rw[<-fin (a.dD=0/\a.akU=0/\a.aa0=0) (by rw[if_pos h0])]
  congr 1
  rw[h0]
  by_cases k:a.dD=0 <;> by_cases e:a.akU=0 <;> by_cases d:a.aa0=0 <;> simp[k,e,d]
 rw[aG h0]
 by_cases c:a.State=1
 .rw[aC c];rw[<-fin (0<a.dD/\a.akU=0) (by rw[if_neg h0,if_pos c])];exact fm rfl
 rw[aG c];rw[<-fin ((a.State=2\/a.State=3\/a.State=4)/\0<a.dD/\0<a.akU/\a.dD≠a.akU) (by rw[if_neg h0,if_neg c])];have l:(bif c5 (a.State=2) then c7 (c5 (a.State=2)) else(bif c5 (a.State=3) then c7 (c5 (a.State=3)) else c7 (c5 (a.State=4))).bind λm=>c7 m)=c7 (c5 (a.State=2\/a.State=3\/a.State=4)):=by
  by_cases e:a.State=2
  .rw[aC e,decide_eq_true e,decide_eq_true (.inl e)]
  .rw[aG e]
   by_cases d:a.State=3
   .rw[aC d,aa,decide_eq_true d,decide_eq_true (.inr (.inl d))]
   .rw[aG d,aa]
    congr 1
    exact decide_eq_decide.2 ⟨λb=>.inr (.inr b),λb=>by omega⟩
 rw[l,aa];exact fm (fm (fm rfl))
def rz(c:cd)(a:bA)(b:aL):Prop:=rR c/\ff a/\a.Out=true/\b.aA≠[]/\D1 b c.bT
def aeN{d:cd}{c:bA}{b:aL}(e:Fit d.bT)(k:Fit c.af)(i:gF b):Ok (Ah LC d c b) λv=>v=true->rz d c b:=by
 unfold Ah;rw[AH e,aa];refine aV (λg=>?_) (λ_=>ae λa=>by cases a)
 rw[tA k,aa];refine aV (λh=>?_) (λ_=>ae λa=>by cases a)
 refine dy (λl=>?_) (λ_=>ae λa=>by cases a)
 refine aV (λf=>?_) (λ_=>ae λa=>by cases a)
 rw[Vo i e,aa];exact ae λa=>⟨g.1,h,l,λj=>by rw[j] at f;simp at f,of_decide_eq_true a⟩
def B5{r:jf}(c:Bool)(d:Fit r.x.bT)(e:Fit r.k.af)(h:gF r.b):Ok (si LC r c) λb=>b=0->mW r.s/\r.s.State=r.from_/\(r.s.aa0<=r.t/\r.t<=2147483648)/\c=false/\rz r.x r.k r.b:=by
 unfold si;rw[AH d,aa,de];refine aV (λf=>?_) (λ_=>ae λa=>by cases a)
 refine aV (λ_=>ae λa=>by cases a) (λg=>?_)
 unfold zd;have b:(bif c5 (r.s.aa0<=r.t) then c7 (c5 (r.t<=2147483648)) else c7 false)=c7 (c5 (r.s.aa0<=r.t/\r.t<=2147483648)):=fm rfl;rw[b,aa,lA,ew rfl,aa];refine aV (λ_=>ae λa=>by cases a) (λm=>?_)
 refine dy (λ_=>ae λa=>by cases a) (λl=>?_)
 refine aD (Q:=λ_=>True) (aV (λ_=>ae trivial) (λ_=>ae trivial)) λj _=>?_
 refine dy (λ_=>ae λa=>by cases a) (λ_=>?_)
 rw[tA e,aa];refine aD (Q:=λ_=>True) (dy (λ_=>ae trivial) (λ_=>ae trivial)) λj _=>?_
 refine dy (λ_=>ae λa=>by cases a) (λ_=>?_)
 refine aD (aeN d e h) λv i=>?_
 rw[de];refine dy (λk=>ae λ_=>⟨f.2,ej.1 g,by omega,l,i k⟩) (λ_=>ae λa=>by cases a)
def ao0{x:cd}{s:b7}{k:bA}{b:aL}(i c:Int)(l:Fit x.bT)(m:Fit k.af)(h:gF b):Ok (BR LC x s k b i c) λq=>(q.2≠0/\q.1=s)\/(q.2=0/\mW q.1/\q.1.State=1/\rz x k b):=by
 unfold BR;refine aD (B5 (r:=jf.mk x s k b c 0) _ l m h) λp e=>?_
 refine aV (λa=>ae (.inl ⟨a,rfl⟩)) (λa=>?_)
 obtain⟨g,o,n,d,j⟩:=e (ej.1 a);have d:=of_decide_eq_false d;have f:=g.1;dsimp only at n f;exact ae (.inr ⟨rfl,⟨by dsimp only;omega,by rw[if_neg (by simp),if_pos rfl];exact⟨by dsimp only;omega,rfl⟩⟩,rfl,j⟩)
def ajE{x:cd}{s:b7}{k:bA}{b:aL}(i e:Int)(m:Fit x.bT)(n:Fit k.af)(l:gF b):Ok (AJ LC x s k b i e) λq=>(q.2≠0/\q.1=s)\/(q.2=0/\mW q.1/\q.1.State=2/\rz x k b):=by
 unfold AJ;refine aD (Q:=λa=>a=0->mW s/\s.State=1/\(s.aa0<=e/\e<=2147483648)/\(0<i/\i≠s.dD)/\rz x k b) ?_ λa d=>?_
 .refine aV (λf=>?_) (λf=>?_)
  .refine aD (B5 (r:=jf.mk x s k b e 1) _ m n l) λa d=>ae λh0=>?_
   obtain⟨_,_,_,c,_⟩:=d h0;cases c
  .refine aD (B5 (r:=jf.mk x s k b e 1) _ m n l) λa d=>ae λh0=>?_
   obtain⟨g,h,o,c,j⟩:=d h0;exact⟨g,h,o,⟨by omega,of_decide_eq_false c⟩,j⟩
 .refine aV (λf=>ae (.inl ⟨f,rfl⟩)) (λf=>?_)
  obtain⟨g,h,o,c,j⟩:=d (ej.1 f);obtain⟨t,p⟩:=g;rw[if_neg (by omega),if_pos h] at p;exact ae (.inr ⟨rfl,⟨by dsimp only;omega,by rw[if_neg (by simp),if_neg (by simp)];exact⟨.inl rfl,p.1,c.1,λa=>c.2 a.symm⟩⟩,rfl,j⟩)
def X1{x:cd}{s:b7}{k:bA}{b:aL}(e:Int)(i:Bool)(l:Fit x.bT)(m:Fit k.af)(j:gF b):Ok (CM LC x s k b e i) λq=>(q.2≠0/\q.1=s)\/(q.2=0/\mW q.1/\(q.1.State=3\/q.1.State=4)/\rz x k b):=by
 unfold CM;refine aD (B5 (r:=jf.mk x s k b e 2) _ l m j) λp g=>?_
 refine aV (λa=>ae (.inl ⟨a,rfl⟩)) (λa=>?_)
 obtain⟨d,h,n,_,f⟩:=g (ej.1 a);dsimp only at d h n;obtain⟨o,c⟩:=d;rw[if_neg (by omega),if_neg (by omega)] at c;refine dy (λ_=>ae (.inr ⟨rfl,⟨by dsimp only;omega,?_⟩,.inr rfl,f⟩)) (λ_=>ae (.inr ⟨rfl,⟨by dsimp only;omega,?_⟩,.inl rfl,f⟩))
 .rw[if_neg (by simp),if_neg (by simp)];exact⟨.inr (.inr rfl),c.2⟩
 .rw[if_neg (by simp),if_neg (by simp)];exact⟨.inr (.inl rfl),c.2⟩
def Yc{x:cd}{s:b7}(a:Int)(c:Fit x.bT):Ok (BY LC x s a) λq=>(q.2≠0/\q.1=s)\/(q.2=0/\q.1=⟨0,0,0,0⟩):=by
 unfold BY;rw[AH c,aa,de];refine aV (λd=>?_) (λ_=>ae (.inl ⟨by simp,rfl⟩))
 refine aV (λ_=>ae (.inl ⟨by simp,rfl⟩)) (λe=>?_)
 refine aD (Q:=λ_=>True) (by unfold zd;exact aV (λ_=>ae trivial) (λ_=>ae trivial)) λb _=>?_
 rw[de];refine dy (λ_=>?_) (λ_=>ae (.inl ⟨by simp,rfl⟩))
 refine aD (Q:=λ_=>True) (aV (λ_=>ae trivial) (λ_=>ae trivial)) λb _=>?_
 exact dy (λ_=>ae (.inl ⟨by simp,rfl⟩)) (λ_=>ae (.inr ⟨rfl,rfl⟩))
def Xp:mW ⟨0,0,0,0⟩:=⟨by decide,by rw[if_pos rfl];exact⟨rfl,rfl,rfl⟩⟩
def kb(r:aT):Prop:=(0<=r.agX/\r.agX<=31)/\(0<=r.aj6/\r.aj6<=65535)/\(0<=r.aa0/\r.aa0<=2147483648)/\r.aw.length<=20/\cj 1 65535 r.aw
instance (r:aT):Decidable (kb r):=by unfold kb;infer_instance
def xF{r:aT}(f:Fit r.aw):lQ LC r=c7 (c5 (kb r)):=by
 unfold lQ;rw[cF,aa,cF,aa,cF,aa,kw _ _ _ f,aa,fm (fm (fm (fm rfl)))]
 congr 1
 apply decide_eq_decide.2
 unfold kb
 constructor
 .rintro⟨a,b,d,e,c⟩;exact⟨a,b,d,by omega,c⟩
 .rintro⟨a,b,d,e,c⟩;exact⟨a,b,d,by omega,c⟩
def fp(b:Int):Nat->List Int
 |0=>[]
 |a+1=>(b/256^a%256)::fp b a
def ly(b:Int):∀a,(fp b a).length=a
 |0=>rfl
 |a+1=>by unfold fp;rw[ey,ly b a]
def AO(b:Int):∀a,Bytes (fp b a)
 |0=>Bytes.nil
 |a+1=>by unfold fp;exact Bytes.cons (by omega) (AO b a)
def Qv:∀i:Nat,(2:Int)^ (8*i)=256^i
 |0=>rfl
 |i+1=>by rw[show 8*(i+1)=8*i+8 by omega,Int.pow_add,Qv i,o7];rfl
def IY(i:Nat):(0:Int)<256^i:=Int.pow_pos (by decide)
def put_eq(c:Int)(h0:0<=c)(k:c<=18446744073709551615):∀(a:Nat) (b:List Int),a<=8->b.length<=1000->py LC b c (a:Int)=c7 (b++fp c a):=by
 intro a b e i;unfold py;have j:∀(a:Nat) (b:List Int),a<=8->b.length<=1000+(8 -a)->bO (λd:List Int×Int=>vM LC c d.1 d.2) (b,(a:Int) -1)=c7 (b++fp c a):=by
  intro a
  induction a with
  |zero=>
   intro b _ _;refine fZ ?_
   dsimp only;unfold vM;rw[aG];simp[fp]
  |succ a h=>
   intro b e i;have m:=IY a;have g:iN .u64 c (hQ.wrap (c3 c4 (8*(((a+1:Nat):Int) -1))))=c7 (c/256^a):=by
    rw[show 8*(((a+1:Nat):Int) -1)=((8*a:Nat):Int) by omega,aJ,mB (by omega) (by omega),AD (by omega),dk,Nat.min_eq_left (show 8*a<=hQ.bits by show 8*a<=64;omega),Qv,ih _ (by omega)]
   have l:0<=c/256^a:=p6 h0 (by omega);have n:c/256^a<=c:=oj _ h0;have f:IntKind.u8.wrap (c/256^a)=c/256^a%256:=by
    unfold IntKind.wrap;simp[IntKind.bits,IntKind.signed]
   rw[iO (a':=(b++[c/256^a%256],(a:Int) -1))]
   .rw[h _ (by omega) (by simp;omega),hB]
    rfl
   .dsimp only;unfold vM;rw[aC,g,aa,f,dm (by decide) (by omega),aa,aJ]
    congr 3
    omega
 have:=j a b e (by omega);rw[aJ,show LC.loop (λd:List Int×Int=>vM LC c d.1 d.2) (b,(a:Int) -1)=_ from this,aa]
def l7(a:List Int):Int:=a.foldl (λc b=>c*256+b) 0
def VV(c b:Int)(h0:0<=c)(g:c*256+255<=18446744073709551615)(e:0<=b/\b<=255):bits .or .u64 (c*256) b=c*256+b:=by
 obtain⟨a,rfl⟩:=j7 h0;obtain⟨d,rfl⟩:=j7 e.1;have f:(a:Int)*256=((a*256:Nat):Int):=by omega
 rw[f];show hQ.wrap ((m6 64 ((a*256:Nat):Int) ||| m6 64 (d:Int)).toNat:Int)=_
 rw[BitVec.toNat_or,j1,j1,j6,j6,kh (by omega),kh (by omega)];have:a*256 ||| d=a*256+d:=by
  have:=Nat.shiftLeft_add_eq_or_of_lt (i:=8) (b:=d) (by omega) a;rw[Nat.shiftLeft_eq] at this;exact this.symm
 rw[this,mB (by omega) (by omega)];omega
def L8:∀(c:List Int) (a:Int),Bytes c->0<=a->0<=c.foldl (λa b=>a*256+b) a/\c.foldl (λa b=>a*256+b) a<(a+1)*256^c.length
 |[],a,_,i=>by simp only[List.foldl_nil,hL,Int.pow_zero,Int.mul_one];omega
 |d::c,a,e,i=>by
  have l:=e d (by simp);obtain⟨f,g⟩:=L8 c (a*256+d) (λh j=>e h (by simp[j])) (by omega);rw[p7,ey,o7];refine⟨f,Int.lt_of_lt_of_le g ?_⟩
  have k:=IY c.length;have:(a*256+d+1)*256^c.length<=((a+1)*256)*256^c.length:=Int.mul_le_mul_of_nonneg_right (by omega) (by omega);rw[ng] at this;rw[o8 (256^c.length) 256];exact this
def FY(a:List Int)(d:Bytes a)(t:a.length<=7):jQ LC a=c7 (l7 a):=by
 unfold jQ;have l:=nV (f:=λc:Int×Int=>zf LC a c.1 c.2) a.length (λi=>(l7 (a.take i),(i:Int))) (l7 a) (λi h=>by
  dsimp only;have g:=d _ (dd h);have b:=c6 h;generalize a[i]=e at g b;have o:=L8 (a.take i) 0 (d.take i) (eH 0);have k:(a.take i).length=i:=by rw[ea];omega
  rw[k] at o;have q:(256:Int)^i<=256^6:=by
   have:=Nat.pow_le_pow_right (show 256>0 by decide) (show i<=6 by omega);have s:((256^i:Nat):Int)=(256:Int)^i:=by rw[pc];rfl
   have p:((256^6:Nat):Int)=(256:Int)^6:=by rw[pc];rfl
   omega
  have r:(256:Int)^6=281474976710656:=rfl;have m:0<=l7 (a.take i)/\l7 (a.take i)<281474976710656:=by unfold l7;omega
  unfold zf;rw[aC,bn,b,aa,ahO (by omega),show(2:Int)^ (min (8:Int).toNat hQ.bits)=256 from rfl,mB (n:=l7 (a.take i)*256) (by omega) (by omega),aa,mB (n:=e) (by omega) (by omega),VV _ _ m.1 (by omega) g,aJ];have j:l7 (a.take (i+1))=l7 (a.take i)*256+e:=by
   unfold l7;rw[iE b,List.foldl_append]
   rfl
  rw[j]
  rfl) (by
  dsimp only;unfold zf;rw[aG,gy])
 exact dL l
def SS(c:Int)(h0:0<=c):∀(a:Nat) (d:Int),(fp c a).foldl (λd b=>d*256+b) d=d*256^a+c%256^a
 |0,d=>by simp[fp]
 |a+1,d=>by
  unfold fp;rw[p7,SS c h0 a,o7,Int.add_mul];have j:=IY a;have i:c%(256^a*256)=c/256^a%256*256^a+c%256^a:=by
   have e:=kc c (256^a*256);have l:=kc c (256^a);have h:=kc (c/256^a) 256;have g:c/ (256^a*256)=c/256^a/256:=(Int.ediv_ediv_of_nonneg (by omega)).symm;rw[g] at e;have f:256^a*256*(c/256^a/256)=256^a*(256*(c/256^a/256)):=ng _ _ _;rw[f] at e;have m:256^a*(c/256^a)=256^a*(c/256^a%256)+256^a*(256*(c/256^a/256)):=by rw[<-Int.mul_add,h]
   have k:c/256^a%256*256^a=256^a*(c/256^a%256):=o8 _ _;omega
  rw[i,ng,o8 256 (256^a)];omega
def IV{n:Int}{k:Nat}(h0:0<=n)(a:n<256^k):l7 (fp n k)=n:=by
 unfold l7;rw[SS n h0,q6,ma,Int.emod_eq_of_lt h0 a]
def jI(a:List Int):List Int:=a.flatMap λb=>fp b 2
def jr(r:aT):List Int:=fp r.aj6 2++fp r.aa0 6++[(r.aw.length:Int)]++jI r.aw
def Gp(a:List Int):(jI a).length=2*a.length:=by
 induction a with
 |nil=>rfl
 |cons c a b=>unfold jI at b⊢;rw[m2,eo,b,ly,ey];omega
def aq4(a:List Int):Bytes (jI a):=by
 induction a with
 |nil=>exact Bytes.nil
 |cons c a b=>unfold jI at b⊢;rw[m2];exact(AO c 2).aX b
def WJ{r:aT}(s:Fit r.aw):Ex LC r=if kb r then c7 (⟨r.agX,9,jr r⟩,0) else c7 (⟨0,0,[]⟩,6):=by
 unfold Ex;rw[xF s,aa,de]
 by_cases b:kb r
 rotate_left
 .rw[aG b,if_neg b]
 rw[aC b,if_pos b];obtain⟨u,j,q,v,p⟩:=b;have m:=put_eq r.aj6 j.1 (by omega) 2 [] (by decide) (by simp);have g:=put_eq r.aa0 q.1 (by omega) 6 (fp r.aj6 2) (by decide) (by rw[ly];omega);rw[mB (n:=r.aj6) (by omega) (by omega),show py LC [] r.aj6 2=_ from m,aa,mB (n:=r.aa0) (by omega) (by omega),mx,show py LC (fp r.aj6 2) r.aa0 6=_ from g,aa,w8 (by omega) (by omega),dm (by decide) (by simp only[eo,ly];omega),aa];have k:=nV (f:=λa:List Int×Int=>wg LC r a.1 a.2) r.aw.length (λi=>(fp r.aj6 2++fp r.aa0 6++[(r.aw.length:Int)]++jI (r.aw.take i),(i:Int))) (jr r) (λi e=>by
  dsimp only;have o:=p.mem (dd e);have d:=c6 e;generalize r.aw[i]=c at o d;unfold wg;have h:=put_eq c (by omega) (by omega) 2 (fp r.aj6 2++fp r.aa0 6++[(r.aw.length:Int)]++jI (r.aw.take i)) (by decide) (by simp only[eo,ly,Gp,ea,ey,hL];omega);rw[aC,bn,d,aa,mB (n:=c) (by omega) (by omega),show py LC _ c 2=_ from h,aa,aJ];have l:jI (r.aw.take (i+1))=jI (r.aw.take i)++fp c 2:=by
   unfold jI;rw[iE d,List.flatMap_append];simp
  rw[l,hB (_++_++_) (jI _)]
  rfl) (by
  dsimp only;unfold wg;rw[aG,gy]
  rfl)
 have t:LC.loop (λa:List Int×Int=>wg LC r a.1 a.2) (fp r.aj6 2++fp r.aa0 6++[(r.aw.length:Int)],0)=c7 (jr r):=by
  have:=k;simpa[jI] using this
 rw[t,aa]
def arM{r:aT}(a:kb r):Bytes (jr r):=by
 unfold jr;exact(((AO _ _).aX (AO _ _)).aX (Bytes.cons (by have:=a.2.2.2.1;omega) Bytes.nil)).aX (aq4 _)
def WL(r:aT):(jr r).length=9+2*r.aw.length:=by
 unfold jr;simp only[eo,ly,Gp,ey,hL]
def Pl:∀a:List Int,lj (jI a)=a.map λb=>fp b 2
 |[]=>rfl
 |b::a=>by
  unfold jI;rw[m2,km];have c:fp b 2=[b/256^1%256,b/256^0%256]:=rfl;rw[c];show lj (_::_::jI a)=_
  rw[lj,Pl a]
def Nc:∀(b:List Int) (c:List Int),(∀a,a∈b->1<=a/\a<=65535)->c.length+b.length<=100->gW LC (b.map λa=>fp a 2) c=c7 (c++b)
 |[],c,_,_=>by simp[gW]
 |a::b,c,d,g=>by
  have h:=d a (by simp);rw[ey] at g;rw[km,gW,FY _ (AO a 2) (by rw[ly];decide),aa,IV (by omega) (by omega),aJ,dm (by decide) (by omega),aa,Nc b _ (λe f=>d e (by simp[f])) (by simp;omega),hB]
  rfl
def anb{r:aT}(a:kb r):zD LC ⟨r.agX,9,jr r⟩=c7 (r,0):=by
 have b:=a;obtain⟨d,e,m,t,i⟩:=a;have s:=WL r;unfold zD;dsimp only;rw[aG (λg=>g rfl),cF,aa,de,aC d];have j:aj (jr r) 8=c7 (r.aw.length:Int):=by
  rw[show(8:Int)=((8:Nat):Int) from rfl,bn];unfold jr;rw[hB,hB,eE (by rw[ly];decide),ly,eE (by rw[ly];decide),ly]
  rfl
 rw[j,aa];have p:(bif c5 (((jr r).length:Int)<9) then c7 true else c7 (c5 (((jr r).length:Int)≠c3 c4 (9+c3 c4 (2*c3 c4 (r.aw.length:Int))))))=c7 false:=by
  rw[aG,aJ (n:=(r.aw.length:Int)),aJ (n:=2*(r.aw.length:Int)),aJ,decide_eq_false (by omega)]
 rw[p,aa];simp only[cond_false];have h:eG (jr r) 0 2=c7 (fp r.aj6 2):=by
  rw[l8 (by omega) (by omega) (by omega)];unfold jr;simp[fp]
 have l:eG (jr r) 2 8=c7 (fp r.aa0 6):=by
  rw[l8 (by omega) (by omega) (by omega)];unfold jr;simp[fp]
 have c:eG (jr r) 9 ((jr r).length:Int)=c7 (jI r.aw):=by
  rw[l8 (by omega) (by omega) (by omega),dk,gy];unfold jr;simp[fp]
 rw[h,aa,FY _ (AO _ _) (by rw[ly];decide),aa,l,aa,FY _ (AO _ _) (by rw[ly];decide),aa,c,aa];have o:vE LC (jI r.aw) 2=c7 (jI r.aw,2):=by unfold vE;rw[aG (by decide)]
 rw[o,aa,IV (n:=r.aj6) (k:=2) e.1 (by omega),IV (n:=r.aa0) (k:=6) m.1 (by show r.aa0<281474976710656;omega),aJ (n:=r.aj6),aJ (n:=r.aa0)];unfold rA;dsimp only;rw[aC rfl,aC (by rw[Gp];omega),Pl,Nc _ _ (λq f=>i.mem f) (by simp;omega),aa,mx,xF (by show r.aw.length<=_;omega),aa,de];rw[aC (show kb ⟨r.agX,r.aj6,r.aa0,r.aw⟩ from b)]
def abN{x:cZ}{r:aT}(w:Sm x.dl)(u:Sm x.dr)(A:Fit r.aw):Ok (CT LC x r) λq=>q.1.dl.length=x.dl.length/\q.1.dr.length=x.dr.length/\(q.2≠0->q.1=x):=by
 unfold CT;have z:∃b,zY LC x=c7 b/\(b=true->x.dl.length=32/\x.dr.length=32/\(∀n,n∈x.dl->-1<=n/\n<=65535)/\∀n,n∈x.dr->0<=n/\n<=2147483648):=by
  unfold zY
  by_cases m:(x.dl.length:Int)=32
  rotate_left
  .rw[aG m];exact⟨false,rfl,λa=>by cases a⟩
  by_cases s:(x.dr.length:Int)=32
  rotate_left
  .rw[aC m,aG s];exact⟨false,rfl,λa=>by cases a⟩
  have j:Am LC x.dl=c7 (x.dl.any λn=>!c5 (-1<=n/\n<=65535)):=by
   unfold Am GR;have:=fF (l:=x.dl) (P:=λd=>Ap LC d) (p:=λn=>!c5 (-1<=n/\n<=65535)) (f:=λc=>I8 LC x.dl c) (by omega) (λd E=>by
    unfold Ap;rw[cF,aa]) (λc=>rfl)
   rw[show(LC.loop (λc=>I8 LC x.dl c) 0).bind _=_ from this,aa,gm]
  have k:CZ LC x.dr=c7 (x.dr.any λn=>!c5 (0<=n/\n<=2147483648)):=by
   unfold CZ JV;have:=fF (l:=x.dr) (P:=λd=>Dd LC d) (p:=λn=>!c5 (0<=n/\n<=2147483648)) (f:=λc=>FL LC x.dr c) (by omega) (λd E=>by
    unfold Dd;rw[cF,aa]) (λc=>rfl)
   rw[show(LC.loop (λc=>FL LC x.dr c) 0).bind _=_ from this,aa,gm]
  rw[aC m,aC s,j,aa,ot,k,aa,ot]
  by_cases g:∀n,n∈x.dl->-1<=n/\n<=65535
  .rw[aC g];exact⟨_,rfl,λa=>⟨by omega,by omega,g,of_decide_eq_true a⟩⟩
  .rw[aG g];exact⟨false,rfl,λa=>by cases a⟩
 obtain⟨b,j,k⟩:=z;rw[j,aa,de];refine dy (λy=>?_) (λ_=>ae ⟨rfl,rfl,λ_=>rfl⟩)
 obtain⟨R,O,G,H⟩:=k y;rw[xF A,aa,de];refine aV (λC=>?_) (λ_=>ae ⟨rfl,rfl,λ_=>rfl⟩)
 obtain⟨o,L,M,N,J⟩:=C;have h:x.dl[r.agX.toNat]?=c7 (x.dl[r.agX.toNat]'(by omega)):=c6 (by omega);have B:=G _ (dd (show r.agX.toNat<x.dl.length by omega));generalize x.dl[r.agX.toNat]'(by omega)=e at h B;have i:x.dr[r.agX.toNat]?=c7 (x.dr[r.agX.toNat]'(by omega)):=c6 (by omega);have F:=H _ (dd (show r.agX.toNat<x.dr.length by omega));generalize x.dr[r.agX.toNat]'(by omega)=d at i F;have t:aj x.dl r.agX=c7 e:=by unfold aj;rw[if_pos o.1];exact h
 have D:aj x.dr r.agX=c7 d:=by unfold aj;rw[if_pos o.1];exact i
 have I:=abO (v:=r.aj6 -e+65536) (n:=65536) (by omega) (by decide);rw[t,aa,aJ (n:=r.aj6 -e),aJ (n:=r.aj6 -e+65536),D7 (by omega),aa];generalize (r.aj6 -e+65536).tmod 65536=K at I;refine aD (Q:=λ_=>True) (aV (λ_=>aV (λ_=>ae trivial) (λ_=>ae trivial)) (λ_=>ae trivial)) λS _=>?_
 refine dy (λ_=>ae ⟨rfl,rfl,λ_=>rfl⟩) (λ_=>?_)
 rw[bV w,aa,bV u,aa,t,aa,h,aa];refine aV (λ_=>?_) (λ_=>ae ⟨by dsimp only;rw[dT],rfl,λa=>absurd rfl a⟩)
 rw[D,aa,i,aa,aa,aa];exact ae ⟨by dsimp only;rw[dT],by dsimp only;rw[dT],λa=>absurd rfl a⟩
where abO {v n:Int} (h0:0<=v) (hn:1<=n):0<=v.tmod n/\v.tmod n<n:=⟨Int.tmod_nonneg n h0,Int.tmod_lt_of_pos v (by omega)⟩
def Xo{l:List aS}{r:aT}(w:Fit r.aw)(s:∀a,a∈l->0<=a.cR/\a.cR<=60):Ok (Bl LC l r) λq=>q.1.length<=20/\(q.2=0->kb r/\∃a,l[r.agX.toNat]?=c7 a/\∀b,b∈q.1->b.Tag∈r.aw/\b.an=max 0 (r.aa0 -a.cR)/\b.To=r.aa0+a.cR):=by
 unfold Bl;rw[xF w,aa,de];refine aV (λx=>?_) (λ_=>ae ⟨by simp,λe=>by cases e⟩)
 refine aV (λ_=>ae ⟨by simp,λe=>by cases e⟩) (λB=>?_)
 obtain⟨j,o,p,k,m⟩:=x;have h:l[r.agX.toNat]?=c7 (l[r.agX.toNat]'(by omega)):=c6 (by omega);have z:=s _ (dd (show r.agX.toNat<l.length by omega));generalize l[r.agX.toNat]'(by omega)=a at h z;have u:aj l r.agX=c7 a:=by unfold aj;rw[if_pos j.1];exact h
 rw[u,aa];have v:=jm (f:=λb:List dS×Int=>Dq LC r a b.1 b.2) r.aw (λc i=>(c.map λd=>dS.mk r.agX d (max 0 (r.aa0 -a.cR)) (r.aa0+a.cR),i)) (λc=>c.map λd=>dS.mk r.agX d (max 0 (r.aa0 -a.cR)) (r.aa0+a.cR)) (λc C A g=>by
  dsimp only;unfold Dq;have:=iy g;rw[aC (iy g),jg g,aa,aJ (n:=r.aa0 -a.cR),aJ (n:=r.aa0+a.cR),dm (by decide) (by rw[ez];omega),aa,aJ,hK]
  rfl) (by
  dsimp only;unfold Dq;rw[aG])
 refine c8 v ?_
 refine ae ⟨by rw[ez];exact k,λ_=>⟨⟨j,o,p,k,m⟩,a,h,λb t=>?_⟩⟩
 obtain⟨d,y,rfl⟩:=j9.1 t;exact⟨y,rfl,rfl⟩
def jX(e:List aT)(d f:Int)(run:List aT):Prop:=(∀r,r∈run->r∈e/\r.agX=d/\f∉r.aw)/\∀(b:Nat) a c,run[b]?=c7 a->run[b+1]?=c7 c->c.aj6=(a.aj6+1).tmod 65536
def nc(g:List aT)(e f:Int)(a:aS)(d:dC):Prop:=∃run c b,jX g e f run/\run[0]?=c7 c/\run[run.length -1]?=c7 b/\d.an=c.aa0+a.cR/\d.To=b.aa0 -a.cR
def anm{rd:aS}{a b:aT}(d:0<=a.aj6/\a.aj6<=65535):Ok (xH LC rd a b) λv=>v=true->b.aj6=(a.aj6+1).tmod 65536:=by
 unfold xH;rw[aJ,D7 (by omega),aa];refine aV (λc=>?_) (λ_=>ae λc=>by cases c)
 exact aV (λ_=>ae λ_=>c) (λ_=>ae λc=>by cases c)
def GX{h run:List aT}{a:aS}{b c:Int}{out:List dC}(s:∀r,r∈h->kb r)(x:0<=a.cR/\a.cR<=60)(o:jX h b c run)(A:run.length<=400)(w:out.length<=1000)(p:∀d,d∈out->nc h b c a d):
 ∃g,yG LC run a b c out=c7 (pC run a b c [] g)/\xD LC run a b c out=c7 (u32 [] a g b c)/\g.length<=out.length+1/\∀d,d∈g->nc h b c a d:=by
 unfold yG xD
 by_cases i:1<(run.length:Int)
 rotate_left
 .rw[aG i,aG i];exact⟨out,rfl,rfl,by omega,p⟩
 rw[aC i,aC i];have k:run[0]?=c7 (run[0]'(by omega)):=c6 (by omega);have t:=s _ (o.1 _ (dd (show 0<run.length by omega))).1;have l:run[run.length -1]?=c7 (run[run.length -1]'(by omega)):=c6 (by omega);have q:=s _ (o.1 _ (dd (show run.length -1<run.length by omega))).1;generalize run[0]'(by omega)=j at k t;generalize run[run.length -1]'(by omega)=m at l q;have u:aj run 0=c7 j:=by rw[show(0:Int)=((0:Nat):Int) from rfl,bn];exact k
 have v:c3 c4 ((run.length:Int) -1)=((run.length -1:Nat):Int):=by rw[aJ];omega
 have y:=t.2.2.1;have z:=q.2.2.1;rw[v,bn,dk,show(0:Int).toNat=0 from rfl,u,k,l];simp only[aa];rw[aJ (n:=j.aa0+a.cR),aJ (n:=m.aa0 -a.cR)]
 by_cases f:j.aa0+a.cR<m.aa0 -a.cR
 .rw[aC f,aC f,dm (by decide) (by omega),aa,aa];refine⟨_,rfl,rfl,by simp,λd e=>?_⟩
  rcases e4.1 e with e |e
  .exact p d e
  .rw[e0] at e;subst e;exact⟨run,j,m,o,k,l,rfl,rfl⟩
 .rw[aG f,aG f];exact⟨out,rfl,rfl,by omega,p⟩
def jX.nil{l:List aT}{k tag:Int}:jX l k tag []:=⟨λr h=>(by cases h),λc x a h=>by simp at h⟩
def jX.snoc{l run:List aT}{k tag:Int}{r:aT}(h:jX l k tag run)(n:r∈l)(o:r.agX=k)(t:tag∉r.aw)(s:∀x,run[run.length -1]?=c7 x->0<run.length->r.aj6=(x.aj6+1).tmod 65536):jX l k tag (run++[r]):=by
 refine⟨λx a=>?_,λd x m a c=>?_⟩
 .rcases e4.1 a with a |a
  .exact h.1 x a
  .rw[e0] at a;subst a;exact⟨n,o,t⟩
 .by_cases e:d+1<run.length
  .rw[h6 (by omega)] at a c;exact h.2 d x m a c
  .have j:d+1=run.length:=by
    have:=(dt.1 c).1;simp at this;omega
   rw[h6 (by omega)] at a;rw[eE (by omega),j,j8] at c;have c:r=m:=by simpa using c
   subst c;exact s x (by rw[<-j,o2];exact a) (by omega)
def ag3{rs:List aS}(c d:Int)(l:List aT)(V:∀rd,rd∈rs->0<=rd.cR/\rd.cR<=60)(N:∀r,r∈l->Fit r.aw):Ok (xp LC rs c d l) λq=>q.1.length<=1000/\(q.2=0->0<=c/\∃rd,rs[c.toNat]?=c7 rd/\∀a,a∈q.1->nc l c d rd a):=by
 unfold xp;refine aV (λ_=>ae ⟨by simp,λo=>by cases o⟩) (λap=>?_)
 have ab:Ad LC l=c7 (l.any λr=>!c5 (kb r)):=by
  unfold Ad GJ;have:=fF (l:=l) (P:=λn=>Ai LC n) (p:=λr=>!c5 (kb r)) (f:=λm=>I4 LC l m) (by omega) (λn H=>by
   unfold Ai;rw[xF (N n H),aa]) (λm=>rfl)
  rw[show(LC.loop (λm=>I4 LC l m) 0).bind _=_ from this,aa,gm]
 rw[ab,aa,HA];refine aV (λ_=>ae ⟨by simp,λo=>by cases o⟩) (λt=>?_)
 have t:∀r,r∈l->kb r:=Classical.byContradiction t;rw[ew rfl,aa];refine aV (λ_=>ae ⟨by simp,λo=>by cases o⟩) (λao=>?_)
 rw[cF,aa,de];refine aV (λar=>?_) (λ_=>ae ⟨by simp,λo=>by cases o⟩)
 have B:rs[c.toNat]?=c7 (rs[c.toNat]'(by omega)):=c6 (by omega);have A:=V _ (dd (show c.toNat<rs.length by omega));generalize rs[c.toNat]'(by omega)=rd at B A;have Y:aj rs c=c7 rd:=by unfold aj;rw[if_pos (by omega)];exact B
 rw[Y,aa];refine aD (Q:=λe=>∃run out,e=qA c d rd run out/\jX l c d run/\run.length<=l.length/\out.length<=l.length/\∀a,a∈out->nc l c d rd a) ?_ λe j=>?_
 .refine di l.length (λi m=>∃out run,m=vI c d rd out run (i:Int)/\jX l c d run/\run.length<=i/\out.length<=i/\∀a,a∈out->nc l c d rd a) _ (λi m R E=>?_) (λm E=>?_) _ ⟨[],[],rfl,jX.nil,h8 _,h8 _,λa W=>by cases W⟩
  .obtain⟨out,run,rfl,k,G,C,s⟩:=E;have O:l[i]?=c7 l[i]:=c6 R;have y:=dd R;generalize l[i]=h at O y;have aq:=t h y;show Ok (vj LC l c d rd out run (i:Int)) _
   unfold vj;rw[aC,bn,O,aa];have fin:∀(e:pg) g w,e=ql c d rd g w->jX l c d w->w.length<=i+1->g.length<=i+1->(∀a,a∈g->nc l c d rd a)->Ok (c7 (m0 (vI (Jw e) (KY e) (Kd e) (FE e) (vh e) (c3 c4 ((i:Int)+1))))) λe:oI⊕qt=>match e with
    | .inl X=>∃out run,X=vI c d rd out run ((i+1:Nat):Int)/\jX l c d run/\run.length<=i+1/\out.length<=i+1/\∀a,a∈out->nc l c d rd a
    | .inr e=>∃run out,e=qA c d rd run out/\jX l c d run/\run.length<=l.length/\out.length<=l.length/\∀a,a∈out->nc l c d rd a:=λe g w j U T ac al=>by
    subst j;rw[aJ];exact ae ⟨g,w,rfl,U,T,ac,al⟩
   by_cases D:h.agX≠c
   .rw[aC D,aa];exact WI (fin _ out run rfl k (by omega) (by omega) s) λe j=>by cases e <;> exact j
   .rw[aG D];have J:h.agX=c:=ej.1 D;rw[contains_eq (N h y),aa]
    by_cases z:d∈h.aw
    .rw[aC z];obtain⟨g,x,_,K,v⟩:=GX t A k (by omega) (by omega) s;rw[x,aa];dsimp only;rw[aa];exact WI (fin _ g [] rfl jX.nil (by simp) (by omega) v) λe j=>by cases e <;> exact j
    .rw[aG z];have ad:∃n,(bif c5 (0<(run.length:Int)) then(aj run (c3 c4 ((run.length:Int) -1))).bind λ_=>(run[(c3 c4 ((run.length:Int) -1)).toNat]?).bind λS=>(xH LC rd S h).bind λan=>c7 (!an) else c7 false)=c7 n/\(n=false->∀u,run[run.length -1]?=c7 u->0<run.length->h.aj6=(u.aj6+1).tmod 65536):=by
      by_cases h0:0<(run.length:Int)
      .have af:c3 c4 ((run.length:Int) -1)=((run.length -1:Nat):Int):=by rw[aJ];omega
       have L:run[run.length -1]?=c7 (run[run.length -1]'(by omega)):=c6 (by omega);have M:=t _ (k.1 _ (dd (show run.length -1<run.length by omega))).1;generalize run[run.length -1]'(by omega)=u at L M;obtain⟨b,ak,Z⟩:=anm (rd:=rd) (a:=u) (b:=h) M.2.1;rw[aC h0,af,bn,dk,L,aa,aa,ak,aa];refine⟨!b,rfl,λH au I _=>?_⟩
       injection I with I
       subst I;exact Z (by simpa using H)
      .rw[aG h0];exact⟨false,rfl,λ_ u _ o=>absurd (by omega) h0⟩
     obtain⟨n,ag,am⟩:=ad;rw[ag,aa];cases n with
     |true=>
      obtain⟨g,x,_,K,v⟩:=GX t A k (by omega) (by omega) s;simp only[cond_true];rw[x,aa];rw[aa];have F:bj 48 (vh (ql (KG (pC run rd c d [] g)) (FU (pC run rd c d [] g)) (Fp (pC run rd c d [] g)) (GM (pC run rd c d [] g)) (Hz (pC run rd c d [] g)))) [h]=c7 ([]++[h]):=dm (by decide) (by show([]:List aT).length<=_;simp);rw[F,aa,aa];exact WI (fin _ g ([]++[h]) rfl (jX.nil.snoc y J z λu ai=>by simp at ai) (by simp) (by omega) v) λe j=>by cases e <;> exact j
     |false=>
      simp only[cond_false];rw[aa];have F:bj 48 (vh (ql c d rd out run)) [h]=c7 (run++[h]):=dm (by decide) (by show run.length<=_;omega);rw[F,aa,aa];exact WI (fin _ out (run++[h]) rfl (k.snoc y J z (am rfl)) (by simp;omega) (by omega) s) λe j=>by cases e <;> exact j
  .obtain⟨out,run,rfl,k,G,C,s⟩:=E;show Ok (vj LC l c d rd out run (l.length:Int)) _
   unfold vj;rw[aG];exact ae ⟨run,out,rfl,k,G,C,s⟩
 .obtain⟨run,out,rfl,k,G,C,s⟩:=j;obtain⟨g,_,x,K,v⟩:=GX t A k (by omega) (by omega) s;have ah:xD LC (Mb (qA c d rd run out)) (MT (qA c d rd run out)) (LJ (qA c d rd run out)) (Tn (qA c d rd run out)) (N2 (qA c d rd run out))=c7 (u32 [] rd g c d):=x;dsimp only;rw[ah,aa];exact ae ⟨by show g.length<=1000;omega,λ_=>⟨by omega,rd,B,v⟩⟩
def LV{a:aS}(d:0<=a.dY/\a.dY<=10)(c:1<=a.dX/\a.dX<=600):Dh LC a=c7 ((a.dY+1)*a.dX):=by
 unfold Dh;have e:0<=(a.dY+1)*a.dX:=Int.mul_nonneg (by omega) (by omega);have b:(a.dY+1)*a.dX<=11*600:=n0 (by omega) c.2 (by omega) (by decide);rw[aJ (n:=a.dY+1),aJ]
def Hs{o:Type}{z:o}{c:List o}(U:c.length<=1000000){E:o->Option Bool}{p:o->Bool}(J:∀a,a∈c->E a=c7 (p a)){f:List o×Int×Int->Option ((List o×Int×Int)⊕(List o×Int))}
 (D:∀e i g,f (e,i,g)=bif c5 (g<(e.length:Int)) then(aj e g).bind λ_=>(e[g.toNat]?).bind λa=>(E a).bind λH=>(bif (!H) then(aj e i).bind λ_=>(e[i.toNat]?).bind λ_=>c7 (e.set i.toNat a,c3 c4 (i+1)) else c7 (e,i)).bind λd=>c7 (.inl (d.1,d.2,c3 c4 (g+1))) else c7 (.inr (e,i))):
 (bif c5 (gg p c= -1) then c7 c else(bO f (c,gg p c,c3 c4 (gg p c+1))).bind λd=>(eG d.1 d.2 (d.1.length:Int)).bind λ_=>(eG (X.iG z d.2.toNat ((d.1.length:Int).toNat -d.2.toNat) d.1) 0 d.2).bind λa=>c7 a)=c7 (c.filter λa=>!p a):=by
 by_cases h0:gg p c= -1
 .rw[aC h0]
  congr 1
  symm
  refine n1.2 λa l=>?_
  cases m:p a with
  |false=>rfl
  |true=>exact absurd (Aw.2 ⟨a,l,m⟩) (by omega)
 rw[aG h0];have I:0<=gg p c:=by
  unfold gg at h0⊢;cases A:jv (mj p c) 0 c.length with
  |none=>rw[A] at h0;exact absurd rfl h0
  |some b=>
   obtain⟨g,_,_,k,_⟩:=yO A;unfold mj at k;cases l:c[g]? with
   |none=>rw[l] at k;cases k
   |some a=>
    rw[l] at k;cases m:p a with
    |false=>simp only[m,cond_false] at k;cases k
    |true=>simp only[m,cond_true] at k;injection k with k;show 0<=b;omega
 obtain⟨h,T,O,y,L,M⟩:=HN I;have S:=(dt.1 y).1;rw[O,aJ];have K:Ok (bO f (c,(h:Int),(h:Int)+1)) λd=>∃i:Nat,d.2=(i:Int)/\i<=d.1.length/\d.1.take i=c.filter λa=>!p a:=by
  refine di (c.length - (h+1)) (λj e=>∃i:Nat,e.2.1=(i:Int)/\e.2.2=((h+1+j:Nat):Int)/\i<h+1+j/\e.1.length=c.length/\e.1.take i=(c.take (h+1+j)).filter (λa=>!p a)/\∀g,h+1+j<=g->e.1[g]?=c[g]?) _ (λj e R v=>?_) (λe v=>?_) _ ⟨h,rfl,by show(h:Int)+1=_;omega,by omega,rfl,?_,λg _=>rfl⟩
  .obtain⟨aK,N,b⟩:=e;obtain⟨i,rfl,rfl,w,t,r,s⟩:=v;dsimp only at w t r s;have q:h+1+j<c.length:=by omega
   have l:=c6 q;have B:=dd q;generalize c[h+1+j]=a at l B;have C:aK[h+1+j]?=c7 a:=(s _ (h8 _)).trans l;rw[D,aC,bn,C,aa,dk,C,aa,J a B,aa,de];have x:(c.take (h+1+(j+1))).filter (λa=>!p a)=(c.take (h+1+j)).filter (λa=>!p a)++(if p a=true then[] else[a]):=by
    rw[show h+1+(j+1)=(h+1+j)+1 by omega,iE l,o3];cases m:p a <;> simp[m]
   cases m:p a with
   |true=>
    simp only[cond_true,aa];rw[aJ];refine ae ⟨i,rfl,by dsimp only;omega,by omega,t,?_,λg q=>s g (by omega)⟩
    rw[x,m];simpa using r
   |false=>
    have u:i<aK.length:=by omega
    simp only[cond_false];rw[bn,c6 u,aa,dk,c6 u,aa,aa,aJ (n:=(i:Int)+1),aJ];refine ae ⟨i+1,rfl,by dsimp only;omega,by omega,by dsimp only;rw[dT];exact t,?_,λg q=>?_⟩
    .dsimp only;rw[x,m,iE (gv u),n2 (h8 _),r];simp
    .dsimp only;rw[h9 (by omega)];exact s g (by omega)
  .obtain⟨aK,N,b⟩:=e;obtain⟨i,rfl,rfl,w,t,r,s⟩:=v;dsimp only at w t r s;rw[D,aG];refine ae ⟨i,rfl,by dsimp only;omega,?_⟩
   dsimp only;rw[r,hM (by omega)]
  .rw[q8,iE y,o3];simp only[L,fe,j5,not_false_eq_true,List.filter_cons_of_neg,List.filter_nil,p4]
   symm
   refine n1.2 λa l=>?_
   obtain⟨g,q,rfl⟩:=e5.1 l;rw[ea] at q;rw[o6];rw[M g _ (by omega) (c6 (by omega))]
   rfl
 obtain⟨d,F,i,G,P,k⟩:=K;rw[F,aa,G,l8 (by omega) (by omega) (by omega),aa,dk,dk];have Q:(X.iG z i (d.1.length -i) d.1).length=d.1.length:=by
  unfold X.iG;simp only[eo,ea,e6,h5];omega
 rw[l8 (by omega) (by omega) (by omega),aa,dk]
 congr 1
 show((X.iG z i (d.1.length -i) d.1).take i).drop 0=_
 rw[k0, <-k];unfold X.iG;rw[l0 (by rw[ea];omega),q3,qb]
def al9{c:List Int}(ad:c.length<=1000000):Ok (ED LC c) λr=>r.length<=c.length/\∀e,e∈r↔e∈c:=by
 unfold ED;refine aV (λ_=>ae ⟨h8 _,λe=>Iff.rfl⟩) (λT=>?_)
 refine aD (Q:=λf=>match f with | .inl r=>r.length<=c.length/\∀e,e∈r↔e∈c | .inr _=>True) ?_ λf s=>?_
 .refine di (c.length -1) (λa g=>g=((1+a:Nat):Int)) _ (λa g V j=>?_) (λg j=>?_) _ rfl
  .subst j;have t:1+a<c.length:=by omega
   have L:c3 c4 (((1+a:Nat):Int) -1)=(a:Int):=by rw[aJ];omega
   unfold If;rw[aC,bn,c6 t,aa,dk,c6 t,aa,L,bn,c6 (show a<c.length by omega),aa,dk,c6 (show a<c.length by omega),aa];refine aV (λN=>?_) (λ_=>by rw[aJ];exact ae (by dsimp only;omega))
   rw[l8 (by omega) (by omega) (by omega),aa];refine aD (Q:=λf=>∃i:Nat,f.2=(i:Int)/\f.1.length=c.length/\i<=c.length/\∀e,e∈f.1.take i↔e∈c) ?_ λf s=>?_
   .refine di (c.length - (1+a) -1) (λd g=>∃i:Nat,g.2.1=(i:Int)/\g.2.2=((d+1:Nat):Int)/\i<=1+a+d/\g.1.length=c.length/\(∀h,1+a+d<=h->g.1[h]?=c[h]?)/\∀e,e∈g.1.take i↔e∈c.take (1+a+d+1)) _ (λd g A j=>?_) (λg j=>?_) _ ⟨1+a,rfl,rfl,by omega,rfl,λh _=>rfl,λe=>?_⟩
    .obtain⟨aK,P,b⟩:=g;obtain⟨i,rfl,rfl,v,m,l,o⟩:=j;dsimp only at v m l o;have O:1+a+(d+1)<c.length:=by omega
     have p:=c6 O;have q:=c6 (show 1+a+d<c.length by omega);generalize Z:c[1+a+(d+1)]=X at p;generalize ac:c[1+a+d]'(by omega)=w at q;have R:aK[1+a+(d+1)]?=c7 X:=(l _ (by omega)).trans p;have K:aK[1+a+d]?=c7 w:=(l _ (by omega)).trans q;have C:(((aK).drop ((1+a:Nat):Int).toNat).take ((c.length:Int).toNat - ((1+a:Nat):Int).toNat)).length=c.length - (1+a):=by
      rw[ea,h5,dk,dk];omega
     have B:∀h:Nat,h<c.length - (1+a)->∃H,aj (((aK).drop ((1+a:Nat):Int).toNat).take ((c.length:Int).toNat - ((1+a:Nat):Int).toNat)) (h:Int)=c7 H:=λh z=>⟨_,by rw[bn];exact c6 (by omega)⟩
     obtain⟨W,I⟩:=B (d+1) (by omega);obtain⟨Y,J⟩:=B d (by omega);have M:c3 c4 (((d+1:Nat):Int) -1)=(d:Int):=by rw[aJ];omega
     dsimp only;unfold Kw;rw[aC (by rw[C];omega),I,aa,M,J,aa,dk,dk,R,aa,dk,K,aa,aa,aa];have y:∀e,e∈c.take (1+a+(d+1)+1)↔e∈c.take (1+a+d+1)\/e=X:=λe=>by
      rw[show 1+a+(d+1)+1=(1+a+(d+1))+1 by omega,iE p,e4,e0,show 1+a+(d+1)=1+a+d+1 by omega]
     have G:w∈c.take (1+a+d+1):=by rw[iE q];simp
     by_cases u:X≠w
     .have x:i<aK.length:=by omega
      rw[aC u,bn,c6 x,aa,dk,c6 x,aa,aa,aJ (n:=(i:Int)+1),aJ];refine ae ⟨i+1,rfl,by dsimp only;omega,by omega,by dsimp only;rw[dT];exact m,λh z=>?_,λe=>?_⟩
      .dsimp only;rw[h9 (by omega)];exact l h (by omega)
      .dsimp only;rw[y,iE (gv x),n2 (h8 _),e4,e0,o]
     .have F:=ej.1 u;rw[aG u,aa,aJ];refine ae ⟨i,rfl,by dsimp only;omega,by omega,m,λh z=>l h (by omega),λe=>?_⟩
      dsimp only;rw[y,o];exact⟨.inl,λk=>k.elim id λk=>by rw[k,F];exact G⟩
    .obtain⟨aK,P,b⟩:=g;obtain⟨i,rfl,rfl,v,m,l,o⟩:=j;dsimp only at v m l o;dsimp only;unfold Kw;rw[aG (by rw[ea,h5,dk,dk];omega)];refine ae ⟨i,rfl,m,by omega,λe=>?_⟩
     dsimp only;rw[o,hM (by omega)]
    .dsimp only;have q:=c6 t;have p:=c6 (show a<c.length by omega);rw[show 1+a+0+1=(1+a)+1 by omega,iE q,e4,e0,N];refine⟨.inl,λk=>k.elim id λk=>?_⟩
     have E:c[a]∈c.take (a+1):=by rw[iE p];exact e4.2 (.inr (e0.2 rfl))
     rw[k,show 1+a=a+1 by omega];exact E
   .obtain⟨i,D,ab,af,S⟩:=s;rw[D,l8 (by omega) (by omega) (by omega),aa,dk,dk];have U:(X.iG (0:Int) i (f.1.length -i) f.1).length=f.1.length:=by
     unfold X.iG;simp only[eo,ea,e6,h5];omega
    rw[l8 (by omega) (by omega) (by omega),aa,dk];have A:((X.iG (0:Int) i (f.1.length -i) f.1).take i).drop (0:Int).toNat=f.1.take i:=by
     show((X.iG (0:Int) i (f.1.length -i) f.1).take i).drop 0=_
     rw[k0];unfold X.iG;rw[l0 (by rw[ea];omega),q3,qb]
    rw[A];exact ae ⟨by rw[ea];omega,S⟩
  .subst j;unfold If;rw[aG];exact ae trivial
 .cases f with
  |inl r=>exact ae s
  |inr _=>exact ae ⟨h8 _,λe=>Iff.rfl⟩
def akS{a b:List Int}(f:a.length+b.length<=100000):Ok (zT LC a b) λr=>r.length<=a.length+b.length/\∀d,d∈r↔d∈a\/d∈b:=by
 unfold zT He;have k:bO (λc:Int×Int=>ve LC [a,b] c.1 c.2) (0,0)=c7 ((a.length+b.length:Nat):Int):=by
  rw[iO (a':=((a.length:Int),1)),iO (a':=(((a.length+b.length:Nat):Int),2)),fZ (b:=((a.length+b.length:Nat):Int))]
  .rfl
  .dsimp only;unfold ve;rw[aC (by simp),show aj [a,b] 1=c7 b from rfl,aa,aJ (n:=(a.length:Int)+b.length),aG,aJ]
   congr 2
  .dsimp only;unfold ve;rw[aC (by simp),show aj [a,b] 0=c7 a from rfl,aa,aJ (n:=0+(a.length:Int)),aG,aJ,ma]
   rfl
 rw[show LC.loop (λc:Int×Int=>ve LC [a,b] c.1 c.2) (0,0)=_ from k,aa];have i:CW LC ((a.length+b.length:Nat):Int)=c7 []:=by
  unfold CW Ct;rw[aC,nS (by omega) (by omega),aa]
 rw[i,aa];have g:∀d e:List Int,d.length+e.length<=100000->bj 8 d e=c7 (d++e):=λd e f=>pN (by omega)
 have j:bO (λc:List Int×Int=>xV LC [a,b] c.1 c.2) ([],0)=c7 (a++b):=by
  rw[iO (a':=(a,1)),iO (a':=(a++b,2)),fZ (b:=a++b)]
  .rfl
  .dsimp only;unfold xV;rw[aC (by simp),show aj [a,b] 1=c7 b from rfl,aa,g a b f,aa]
   rfl
  .dsimp only;unfold xV;rw[aC (by simp),show aj [a,b] 0=c7 a from rfl,aa,g [] a (by simp;omega),aa,mx]
   rfl
 rw[show LC.loop (λc:List Int×Int=>xV LC [a,b] c.1 c.2) ([],0)=_ from j];simp only[aa];rw[zF (cX (n:=100000) (by rw[eo];exact f) (by decide)),aa];refine aD (al9 (by rw[uP,eo];omega)) λr h=>ae ⟨by have:=h.1;rw[uP,eo] at this;exact this,λd=>?_⟩
 rw[h.2,(uK _).mem_iff,e4]
def lH(b:ak)(a:bE):Prop:=cP b/\cj 0 ((b.ai.length:Int) -1) a.akL/\cj 0 ((b.ai.length:Int) -1) a.dg/\cj 0 ((b.af.length:Int) -1) a.dG/\0<=a.er/\a.er<=2147483648
instance (a:ak) (b:bE):Decidable (lH a b):=by unfold lH;infer_instance
structure lO (e:bE):Prop where
 s:Fit e.akL
 b:Fit e.dg
 h:Fit e.dG
def Jc{c:ak}{e:bE}(d:lO e):rP LC c e=c7 (c5 (lH c e)):=by
 unfold rP;rw[ko,aa]
 by_cases a:cP c
 rotate_left
 .rw[aG a,decide_eq_false (λb=>a b.1)]
 have f:=a.1;have g:=a.2.1;rw[aC a,aJ (n:=(c.ai.length:Int) -1),aJ (n:=(c.af.length:Int) -1),kw _ _ _ d.s,aa,kw _ _ _ d.b,aa,kw _ _ _ d.h,aa,cF,aa,fm (fm (fm rfl))]
 congr 1
 exact decide_eq_decide.2 ⟨λb=>⟨a,b⟩,λb=>b.2⟩
def ahk{a:ak}{b:bE}{p:Int}(c:lO b)(d:Fit a.ai):Bc LC a b p=c7 (c5 (lH a b/\0<=p/\p<=(a.ai.length:Int) -1)):=by
 have e:a.ai.length<=4611686018427387904:=d;unfold Bc;rw[Jc c,aa,aJ,cF,aa];exact fm rfl
def mn(c:ak)(a:cS):Prop:=∃(i:Nat) (r:aZ) (b:Bool),c.af[i]?=c7 r/\a.gX=(i:Int)/\a.from_=(if b then r.To else r.an)/\a.b9=(if b then r.an else r.To)/\a.time=wT c (i:Int) b 2 3 4/\0<=a.time
structure mA (f:cm) (n:Nat):Prop where
 MP:f.n=(n:Int)
 sM:n<=64
 safe:f.safe.length=n
 bad:f.bad.length=n
 num:f.steps.length<=300
 st:∀s,s∈f.steps->(0<=s.from_/\s.from_<(n:Int))/\(0<=s.b9/\s.b9<(n:Int))/\1<=s.time/\s.time<=1000099
def mn.ok{m:ak}(e:cP m){s:cS}(h:mn m s):(0<=s.from_/\s.from_<(m.ai.length:Int))/\(0<=s.b9/\s.b9<(m.ai.length:Int))/\1<=s.time/\s.time<=1000099:=by
 obtain⟨i,r,b,k,_,a,j,t,o⟩:=h;obtain⟨n,c⟩:=Cn e k b;have:=rF m (i:Int) b (u:=2) (d:=3) (l:=4) (by decide);rw[a,j];exact⟨n,c,by omega,by omega⟩
def aol{m:ak}{o:bE}(W:lH m o):Ok (w9 LC m o) λf=>mA f m.ai.length/\∀a,a∈f.steps->mn m a:=by
 obtain⟨F,B,z,ab,_⟩:=W;have X:=F.1;have al:=F.2.1;unfold w9;rw[nS (by omega) (by omega),aa,aa,dk];refine aD (Q:=λe:List Bool=>e.length=m.ai.length) ?_ λO ac=>?_
 .refine di m.ai.length (λi a=>a.2=(i:Int)/\a.1.length=m.ai.length) _ (λi a y l=>?_) (λa l=>?_) _ ⟨rfl,e6⟩
  .obtain⟨d,h⟩:=a;obtain⟨rfl,n⟩:=l;dsimp only at n⊢;unfold u5;rw[aC,bn,c6 y,aa,bn,c6 (show i<d.length by omega),aa,dk,c6 (show i<d.length by omega),aa,aJ];exact ae ⟨rfl,by rw[dT];exact n⟩
  .obtain⟨d,h⟩:=a;obtain⟨rfl,n⟩:=l;dsimp only at n⊢;unfold u5;rw[aG];exact ae n
 have H:∀(v:List Int) (g:List Bool->Int->Option ((List Bool×Int)⊕List Bool)) (A:List Bool),cj 0 ((m.ai.length:Int) -1) v->(∀d h,g d h=bif c5 (h<(v.length:Int)) then(aj v h).bind λq=>(aj d q).bind λ_=>(d[q.toNat]?).bind λ_=>c7 (.inl (d.set q.toNat true,c3 c4 (h+1))) else c7 (.inr d))->A.length=m.ai.length->Ok (bO (λa:List Bool×Int=>g a.1 a.2) (A,0)) λe=>e.length=m.ai.length:=by
  intro v g A E L Z;have ag:=E.len (by omega);refine di v.length (λi a=>a.2=(i:Int)/\a.1.length=m.ai.length) _ (λi a y l=>?_) (λa l=>?_) _ ⟨rfl,Z⟩
  .obtain⟨d,h⟩:=a;obtain⟨rfl,n⟩:=l;dsimp only at n⊢;have x:=c6 y;have K:=E.mem (dd y);generalize v[i]=q at x K;have G:d[q.toNat]?=c7 (d[q.toNat]'(by omega)):=c6 (by omega);have Y:aj d q=c7 (d[q.toNat]'(by omega)):=by unfold aj;rw[if_pos K.1];exact G
   rw[L,aC,bn,x,aa,Y,aa,G,aa,aJ];exact ae ⟨rfl,by rw[dT];exact n⟩
  .obtain⟨d,h⟩:=a;obtain⟨rfl,n⟩:=l;dsimp only at n⊢;rw[L,aG];exact ae n
 refine aD (H o.akL (λd h=>wU LC o d h) O B (λd h=>rfl) ac) λj R=>?_
 refine aD (H o.dg (λd h=>wu LC o d h) (ec m.ai.length false) z (λd h=>rfl) e6) λk ad=>?_
 have ah:=ab.len (by omega);refine aD (Q:=λe=>∃c,e=iC (cm.mk (m.ai.length:Int) c j k)/\c.length<=2*m.af.length/\∀a,a∈c->mn m a) ?_ λe s=>?_
 .refine di m.af.length (λi a=>∃c,a=nC (cm.mk (m.ai.length:Int) c j k) (i:Int)/\c.length<=2*i/\∀a,a∈c->mn m a) _ (λi a y l=>?_) (λa l=>?_) _ ⟨[],rfl,h8 _,λa u=>by cases u⟩
  .obtain⟨c,rfl,C,t⟩:=l;have x:=c6 y;generalize m.af[i]=r at x;show Ok (pS LC m o j k (cm.mk (m.ai.length:Int) c j k) (i:Int)) _
   unfold pS;rw[aC,bn,x,aa,contains_eq (by show o.dG.length<=_;omega),aa];have fin:∀(e:lU) p,e=iC (cm.mk (m.ai.length:Int) p j k)->p.length<=2*(i+1)->(∀a,a∈p->mn m a)->Ok (c7 (m0 (nC (ox j k e) (c3 c4 ((i:Int)+1))))) λe:pE⊕lU=>match e with
    | .inl V=>∃c,V=nC (cm.mk (m.ai.length:Int) c j k) ((i+1:Nat):Int)/\c.length<=2*(i+1)/\∀a,a∈c->mn m a
    | .inr e=>∃c,e=iC (cm.mk (m.ai.length:Int) c j k)/\c.length<=2*m.af.length/\∀a,a∈c->mn m a:=λe p s B z=>by
    subst s;rw[aJ];exact ae ⟨p,rfl,B,z⟩
   by_cases I:(i:Int)∈o.dG
   .rw[aC I,aa];exact WI (fin _ c rfl (by omega) t) λe s=>by cases e <;> exact s
   .rw[aG I,AF,aa];have J:∀(c:List cS) (b:Bool),c.length<=2*i+1->(∀a,a∈c->mn m a)->∃p,(bif c5 (0<=wT m (i:Int) b 2 3 4) then(bj 32 c ([(cS.mk (i:Int) (if b then r.To else r.an) (if b then r.an else r.To) (wT m (i:Int) b 2 3 4))]:List cS)).bind λT=>c7 (iC (cm.mk (m.ai.length:Int) T j k)) else c7 (iC (cm.mk (m.ai.length:Int) c j k)))=c7 (iC (cm.mk (m.ai.length:Int) p j k))/\p.length<=c.length+1/\∀a,a∈p->mn m a:=λc b E u=>by
     by_cases D:0<=wT m (i:Int) b 2 3 4
     .rw[aC D,dm (by decide) (by omega),aa];refine⟨_,rfl,by simp,λa w=>?_⟩
      rcases e4.1 w with w |w
      .exact u a w
      .rw[e0] at w;subst w;exact⟨i,r,b,x,rfl,rfl,rfl,rfl,D⟩
     .rw[aG D];exact⟨c,rfl,by omega,u⟩
    obtain⟨N,P,am,S⟩:=J c false (by omega) t;obtain⟨M,U,ai,af⟩:=J N true (by omega) S;refine c8 (m:=qq _ _) ?_ (WI (fin _ M rfl (by omega) af) λe s=>by cases e <;> exact s)
    refine(dL P).trans ?_
    show((nK LC m (i:Int) true).bind _)=_
    rw[AF,aa];exact(dL U).trans rfl
  .obtain⟨c,rfl,C,t⟩:=l;show Ok (pS LC m o j k (cm.mk (m.ai.length:Int) c j k) (m.af.length:Int)) _
   unfold pS;rw[aG];exact ae ⟨c,rfl,C,t⟩
 .obtain⟨c,rfl,C,t⟩:=s;exact ae ⟨⟨rfl,X,R,ad,by show c.length<=300;omega,λa u=>(t a u).ok F⟩,t⟩
def ahu{b:ak}{c:bE}:DM LC b c=(w9 LC b c).bind λf=>c7 (JJ f):=by
 unfold DM w9;cases i:(gP 1 false (b.ai.length:Int)) with
 |none=>rfl
 |some g=>
  simp only[aa];show((bO (λa:List Bool×Int=>u5 LC b a.1 a.2) (g,0)).bind _)=((bO (λa:List Bool×Int=>u5 LC b a.1 a.2) (g,0)).bind _).bind _
  cases j:bO (λa:List Bool×Int=>u5 LC b a.1 a.2) (g,0) with
  |none=>rfl
  |some h=>
   simp only[aa];show((bO (λa:List Bool×Int=>wU LC c a.1 a.2) (h,0)).bind _)=((bO (λa:List Bool×Int=>wU LC c a.1 a.2) (h,0)).bind _).bind _
   cases l:bO (λa:List Bool×Int=>wU LC c a.1 a.2) (h,0) with
   |none=>rfl
   |some d=>
    simp only[aa];show((bO (λa:List Bool×Int=>wu LC c a.1 a.2) (g,0)).bind _)=((bO (λa:List Bool×Int=>wu LC c a.1 a.2) (g,0)).bind _).bind _
    cases k:bO (λa:List Bool×Int=>wu LC c a.1 a.2) (g,0) with
    |none=>rfl
    |some e=>
     simp only[aa];show((bO (λa:pE=>pS LC b c d e (wK d e a) (wo a)) (nC (cm.mk (b.ai.length:Int) [] d e) 0)).bind _)=((bO (λa:pE=>pS LC b c d e (wK d e a) (wo a)) (nC (cm.mk (b.ai.length:Int) [] d e) 0)).bind _).bind _
     cases bO (λa:pE=>pS LC b c d e (wK d e a) (wo a)) (nC (cm.mk (b.ai.length:Int) [] d e) 0) <;> rfl
def jF{b:Type}{a:List b}{i:Int}(c:b)(h0:0<=i)(d:i<(a.length:Int)):aj a i=c7 (a.getD i.toNat c):=by
 unfold aj;rw[if_pos h0,ee,c6 (by omega)]
 rfl
def get_at{b:Type}{a:List b}{i:Int}(c:b)(h0:0<=i)(d:i<(a.length:Int)):a[i.toNat]?=c7 (a.getD i.toNat c):=by
 rw[ee,c6 (by omega)]
 rfl
def jl(f:cm)(a:cS):Bool:=!(f.safe.getD a.from_.toNat false)&&!(f.bad.getD a.b9.toNat false)
def SH{f:cm}{g:Nat}(b:mA f g){a:cS}(e:a∈f.steps):wJ LC f a=c7 (jl f a):=by
 obtain⟨c,d,_⟩:=b.st a e;have h:=b.safe;have i:=b.bad;unfold wJ jl;rw[jF false c.1 (by omega),aa,jF false d.1 (by omega),aa];cases f.safe.getD a.from_.toNat false <;> rfl
abbrev ig:da:=⟨0,0⟩
def cg(a:List da)(p:Int):da:=a.getD p.toNat ig
def kp(a b:da):Prop:=a.time<b.time\/(a.time=b.time/\a.roads<b.roads)
instance (a b:da):Decidable (kp a b):=by unfold kp;infer_instance
def kx(a:da)(b:cS):da:=⟨a.time+b.time,a.roads+1⟩
def W6(c b:da):zX LC c b=c7 (c5 (kp c b)):=by
 unfold zX
 by_cases d:c.time<b.time
 .rw[aC d,decide_eq_true (show kp c b from .inl d)]
 rw[aG d]
 by_cases e:c.time=b.time
 .rw[aC e]
  congr 1
  exact decide_eq_decide.2 ⟨λa=>.inr ⟨e,a⟩,λa=>a.elim (λa=>absurd a d) λa=>a.2⟩
 .rw[aG e,decide_eq_false (show ¬kp c b from λa=>a.elim d λa=>e a.1)]
def alH{a:List da}{p q:Int}{v:da}(d:0<=p)(c:0<=q)(e:q<(a.length:Int)):cg (a.set q.toNat v) p=if p=q then v else cg a p:=by
 unfold cg;rw[ee,hI]
 by_cases b:p=q
 .subst b;rw[if_pos rfl,if_pos rfl,if_pos (by omega)]
  rfl
 .rw[if_neg b,if_neg (by omega),ee]
def mv(a:da):Nat:=(a.time*1180591620717411303424+a.roads).toNat
def mu(a:List da):Nat:=(a.map mv).sum
def RF:∀(a:List da) (b:Nat) (v:da),b<a.length->mv v<mv (a.getD b ig)->mu (a.set b v)<mu a
 |[],b,v,d,_=>absurd d (by simp)
 |f::a,0,v,_,c=>by
  unfold mu;simp only[hX,km,o1,List.getD_cons_zero] at c⊢;omega
 |f::a,b+1,v,d,c=>by
  have e:=RF a b v (by simpa using d) (by simpa using c);unfold mu at e⊢;simp only[l2,km,o1];omega
structure CI (f:cm) (n:Nat) (c:List da):Prop where
 len:c.length=n
 oV:∀p:Int,0<=p->p<(n:Int)->0<=(cg c p).roads/\(cg c p).roads<=(cg c p).time/\(cg c p).time<=(1152921504606846976:Int)/\((cg c p).time=(1152921504606846976:Int)->(cg c p).roads=0)
 sf:∀p:Int,0<=p->p<(n:Int)->f.safe.getD p.toNat false=true->cg c p=ig
 Ts:∀p:Int,0<=p->p<(n:Int)->f.safe.getD p.toNat false=false->(cg c p).time<(1152921504606846976:Int)->∃s,s∈f.steps/\s.from_=p/\jl f s=true/\¬kp (cg c p) (kx (cg c s.b9) s)
def ae7{f:cm}{d:Nat}(q:mA f d):Ok (bO (λc:List da×Int=>zV LC (ec d ig) f c.1 c.2) (ec d ig,0)) (CI f d):=by
 have u:=q.sM;have v:=q.safe;refine di d (λi c=>c.2=(i:Int)/\c.1.length=d/\∀p:Nat,p<d->c.1.getD p ig=if p<i/\f.safe.getD p false=false then⟨(1152921504606846976:Int),0⟩ else ig) _ (λi c t m=>?_) (λc m=>?_) _ ⟨rfl,e6,λp k=>?_⟩
 .obtain⟨o,a⟩:=c;obtain⟨rfl,j,e⟩:=m;dsimp only at j e⊢;unfold zV;have s:=e i t;rw[if_neg (by omega)] at s;rw[aC (by rw[e6];omega),jF false (by omega) (by omega),aa,jF ig (by omega) (by omega),aa,get_at ig (by omega) (by omega),aa,dk,s,aJ];cases h:f.safe.getD i false with
  |true=>
   simp only[fe,cond_false,aa];refine ae ⟨rfl,j,λp k=>?_⟩
   dsimp only;rw[e p k]
   by_cases l:p=i
   .subst l;rw[if_neg (by omega),if_neg (by rw[h];simp)]
   .have:(p<i/\f.safe.getD p false=false)↔(p<i+1/\f.safe.getD p false=false):=⟨λa=>⟨by omega,a.2⟩,λa=>⟨by omega,a.2⟩⟩
    by_cases b:p<i/\f.safe.getD p false=false
    .rw[if_pos b,if_pos (this.1 b)]
    .rw[if_neg b,if_neg (λa=>b (this.2 a))]
  |false=>
   simp only[k7,cond_true,aa];refine ae ⟨rfl,by dsimp only;rw[dT];exact j,λp k=>?_⟩
   dsimp only;rw[ee,hI]
   by_cases l:i=p
   .subst l;rw[if_pos rfl,if_pos (by omega),if_pos ⟨by omega,h⟩]
    rfl
   .rw[if_neg l, <-ee,e p k];have:(p<i/\f.safe.getD p false=false)↔(p<i+1/\f.safe.getD p false=false):=⟨λa=>⟨by omega,a.2⟩,λa=>⟨by omega,a.2⟩⟩
    by_cases b:p<i/\f.safe.getD p false=false
    .rw[if_pos b,if_pos (this.1 b)]
    .rw[if_neg b,if_neg (λa=>b (this.2 a))]
 .obtain⟨o,a⟩:=c;obtain⟨rfl,j,e⟩:=m;dsimp only at j e⊢;unfold zV;rw[aG (by rw[e6];omega)];have n:∀p:Int,0<=p->p<(d:Int)->cg o p=if f.safe.getD p.toNat false=false then⟨(1152921504606846976:Int),0⟩ else ig:=λp h0 g=>by
   unfold cg;rw[e p.toNat (by omega)]
   by_cases b:f.safe.getD p.toNat false=false
   .rw[if_pos b,if_pos ⟨by omega,b⟩]
   .rw[if_neg b,if_neg (λa=>b a.2)]
  refine ae ⟨j,λp h0 g=>?_,λp h0 g h=>?_,λp h0 g h r=>?_⟩
  .rw[n p h0 g]
   split <;> simp
  .rw[n p h0 g,h];rfl
  .rw[n p h0 g,if_pos h] at r;exact absurd r (by simp)
 .rw[if_neg (by omega),ee,hq,if_pos k]
  rfl
def ab5{f:cm}{n:Nat}(C:mA f n){e:List da}(h0:CI f n e):Ok (bO (λa:List da×Bool×Int=>AB LC f a.1 a.2.1 a.2.2) (e,false,0)) λz=>CI f n z.1/\(z.2=true->mu z.1<mu e)/\(z.2=false->z.1=e/\∀a,a∈f.steps->jl f a=true->(cg e a.b9).time<(1152921504606846976:Int)->¬kp (kx (cg e a.b9) a) (cg e a.from_)):=by
 have ad:=C.num;refine di f.steps.length (λi a=>a.2.2=(i:Int)/\CI f n a.1/\(a.2.1=true->mu a.1<mu e)/\(a.2.1=false->a.1=e/\∀(h:Nat) j,h<i->f.steps[h]?=c7 j->jl f j=true->(cg e j.b9).time<(1152921504606846976:Int)->¬kp (kx (cg e j.b9) j) (cg e j.from_))) _ (λi a I G=>?_) (λa G=>?_) _ ⟨rfl,h0,(by intro d;cases d),λ_=>⟨rfl,λh j y=>absurd y (by omega)⟩⟩
 .obtain⟨c,b,m⟩:=a;obtain⟨rfl,g,r,k⟩:=G;dsimp only at g r k⊢;have H:=c6 I;have E:=dd I;generalize f.steps[i]=a at H E;obtain⟨t,s,Z,ac⟩:=C.st a E;have X:=g.len;have ab:=g.oV a.b9 s.1 s.2;have U:=g.oV a.from_ t.1 t.2;unfold AB;rw[aC,bn,H,aa,jF ig s.1 (by omega),aa,get_at ig s.1 (by omega),aa,aa,aa,SH C E,aa];rw[jF ig t.1 (by omega),get_at ig t.1 (by omega)];rw[show oq c a.b9.toNat ig=cg c a.b9 from rfl,show oq c a.from_.toNat ig=cg c a.from_ from rfl,aJ (n:=(cg c a.b9).time+a.time),aJ (n:=(cg c a.b9).roads+1)];simp only[aa,W6];have V:(bif jl f a then(bif c5 ((cg c a.b9).time<1152921504606846976) then c7 (c5 (kp (da.mk ((cg c a.b9).time+a.time) ((cg c a.b9).roads+1)) (cg c a.from_))) else c7 false) else c7 false)=c7 (c5 (jl f a=true/\(cg c a.b9).time<(1152921504606846976:Int)/\kp (kx (cg c a.b9) a) (cg c a.from_))):=by
   cases q:jl f a with
   |false=>simp
   |true=>
    simp only[cond_true,true_and]
    by_cases D:(cg c a.b9).time<(1152921504606846976:Int)
    .rw[aC D]
     congr 1
     exact decide_eq_decide.2 ⟨λm=>⟨D,m⟩,λm=>m.2⟩
    .rw[aG D,decide_eq_false (λm=>D m.1)]
  refine c8 V ?_
  by_cases x:jl f a=true/\(cg c a.b9).time<(1152921504606846976:Int)/\kp (kx (cg c a.b9) a) (cg c a.from_)
  .rw[aC x,aa,aJ];obtain⟨u1,u2,u3⟩:=x;have Q:a.b9≠a.from_:=λd=>by
    rw[d] at u3;rcases u3 with u3 |u3
    .have:(cg c a.from_).time+a.time<(cg c a.from_).time:=u3;omega
    .have:(cg c a.from_).time+a.time=(cg c a.from_).time:=u3.1;omega
   have ag:(cg c a.b9).time+a.time<(1152921504606846976:Int):=by
    rcases u3 with u3 |u3
    .have:(cg c a.b9).time+a.time<(cg c a.from_).time:=u3;omega
    .have P:(cg c a.b9).time+a.time=(cg c a.from_).time:=u3.1;have M:(cg c a.b9).roads+1<(cg c a.from_).roads:=u3.2;have af:=U.2.2.2;omega
   have T:f.safe.getD a.from_.toNat false=false:=by
    unfold jl at u1;cases d:f.safe.getD a.from_.toNat false with
    |false=>rfl
    |true=>rw[d] at u1;simp at u1
   have o:∀p:Int,0<=p->cg (c.set a.from_.toNat (da.mk ((cg c a.b9).time+a.time) ((cg c a.b9).roads+1))) p=if p=a.from_ then kx (cg c a.b9) a else cg c p:=λp A=>alH A t.1 (by omega)
   have F:mu (c.set a.from_.toNat (da.mk ((cg c a.b9).time+a.time) ((cg c a.b9).roads+1)))<mu c:=by
    refine RF _ _ _ (by omega) ?_
    show mv (kx (cg c a.b9) a)<mv (cg c a.from_)
    unfold mv kx;dsimp only;rcases u3 with u3 |u3
    .have:(cg c a.b9).time+a.time<(cg c a.from_).time:=u3;omega
    .have P:(cg c a.b9).time+a.time=(cg c a.from_).time:=u3.1;have M:(cg c a.b9).roads+1<(cg c a.from_).roads:=u3.2;omega
   refine ae ⟨by dsimp only;omega,⟨by dsimp only;rw[dT];exact X,λp l w=>?_,λp l w u=>?_,λp l w u B=>?_⟩,λ_=>?_,(by intro d;cases d)⟩
   .dsimp only;rw[o p l]
    split
    .unfold kx;dsimp only;omega
    .exact g.oV p l w
   .dsimp only;rw[o p l,if_neg (λd=>by rw[d,T] at u;cases u)];exact g.sf p l w u
   .dsimp only at B⊢;rw[o p l] at B⊢
    by_cases A:p=a.from_
    .rw[if_pos A];refine⟨a,E,A.symm,u1,?_⟩
     rw[o _ s.1,if_neg Q];intro d;rcases d with d |d
     .exact absurd d (q4 _)
     .exact absurd d.2 (q4 _)
    .rw[if_neg A] at B⊢;obtain⟨v,J,N,L,K⟩:=g.Ts p l w u B;refine⟨v,J,N,L,?_⟩
     rw[o _ (C.st v J).2.1.1]
     split
     .rename_i O;intro d;refine K ?_
      rw[O];unfold kp kx at d u3⊢;dsimp only at d u3⊢;omega
     .exact K
   .dsimp only;cases b with
    |true=>exact Nat.lt_trans F (r rfl)
    |false=>rw[(k rfl).1] at F⊢;exact F
  .rw[aG x,aa,aJ];refine ae ⟨by dsimp only;omega,g,r,λd=>⟨(k d).1,λh j y q=>?_⟩⟩
   by_cases R:h<i
   .exact(k d).2 h j R q
   .have:h=i:=by omega
    subst this;rw[H] at q;injection q with q
    subst q;rw[(k d).1] at x;exact λW S Y=>x ⟨W,S,Y⟩
 .obtain⟨c,b,m⟩:=a;obtain⟨rfl,g,r,k⟩:=G;dsimp only at g r k⊢;unfold AB;rw[aG];refine ae ⟨g,r,λd=>⟨(k d).1,λa o=>?_⟩⟩
  obtain⟨h,y,rfl⟩:=e5.1 o;exact(k d).2 h _ y (c6 y)
structure N7 (f:cm) (n:Nat) (c:List da):Prop where
 ci:CI f n c
 nx:∀p:Int,0<=p->p<(n:Int)->f.safe.getD p.toNat false=false->(cg c p).time<(1152921504606846976:Int)->∃s,s∈f.steps/\s.from_=p/\jl f s=true/\cg c p=kx (cg c s.b9) s
def ajU{f:cm}{i:Nat}(g:mA f i):Ok (Bg LC f) (N7 f i):=by
 have L:=g.sM;unfold Bg;rw[g.MP,nS (by omega) (by omega),aa,dk];refine aD (ae7 g) λJ t=>?_
 refine aD (Q:=N7 f i) ?_ λK s=>ae s
 refine oa (λa=>CI f i a.1/\(a.2=false->∀c,c∈f.steps->jl f c=true->(cg a.1 c.b9).time<(1152921504606846976:Int)->¬kp (kx (cg a.1 c.b9) c) (cg a.1 c.from_))) (λa=>2*mu a.1+(if a.2 then 1 else 0)) _ (λa x=>?_) _ ⟨t,(by intro l;cases l)⟩
 obtain⟨d,b⟩:=a;obtain⟨e,n⟩:=x;dsimp only at e n⊢;unfold Tg;cases b with
 |true=>
  rw[cond_true];refine aD (ab5 g e) λE h=>ae ⟨⟨h.1,λl=>?_⟩,?_⟩
  .obtain⟨C,w⟩:=h.2.2 l;dsimp only;rw[C];exact w
  .dsimp only;cases r:E.2 with
   |true=>have:=h.2.1 r;simp;omega
   |false=>rw[(h.2.2 r).1];simp
 |false=>
  rw[cond_false];refine ae ⟨e,λp z B A u=>?_⟩
  obtain⟨a,k,q,o,j⟩:=e.Ts p z B A u;obtain⟨I,m,F,H⟩:=g.st a k;have G:=e.oV a.b9 m.1 m.2;refine⟨a,k,q,o,?_⟩
  have D:(cg d a.b9).time<(1152921504606846976:Int):=by
   unfold kp kx at j;dsimp only at j;omega
  have:=n rfl a k o D;rw[q] at this;unfold kp kx at j this;unfold kx;dsimp only at j this;have v:(cg d p).time=(cg d a.b9).time+a.time:=by omega
  have y:(cg d p).roads=(cg d a.b9).roads+1:=by omega
  rw[<-v, <-y]
def lL(f:cm):Int->List cS->Int->Prop
 |c,[],b=>c=b
 |c,a::d,b=>a∈f.steps/\jl f a=true/\a.from_=c/\lL f a.b9 d b
def lL.snoc{f:cm}:∀{a:Int} {e:List cS} {b:Int},lL f a e b->∀{s:cS},s∈f.steps->jl f s=true->s.from_=b->lL f a (e++[s]) s.b9
 |a,[],b,h,s,c,d,j=>⟨c,d,j.trans (show a=b from h).symm,rfl⟩
 |a,k::e,b,h,s,c,d,j=>⟨h.1,h.2.1,h.2.2.1,lL.snoc h.2.2.2 c d j⟩
def gz(a:List cS):Int:=(a.map (·.time)).sum
structure mC (f:cm) (p:Int) (ss:List cS):Prop where
 ex:∃q,lL f p ss q/\0<=q/\f.safe.getD q.toNat false=true
 nd:(p::ss.map (·.b9)).Nodup
def lL.mem{f:cm}:∀{a:Int} {d:List cS} {b:Int},lL f a d b->∀s,s∈d->s∈f.steps/\jl f s=true
 |a,[],b,h,s,c=>by cases c
 |a,e::d,b,h,s,c=>by
  rcases kl.1 c with rfl |c
  .exact⟨h.1,h.2.1⟩
  .exact lL.mem h.2.2.2 s c
def Rv{n:Nat}{b:List Int}(d:b.Nodup)(c:∀a,a∈b->0<=a/\a<(n:Int)):b.length<=n:=by
 have:=Fb b ((List.range n).map Int.ofNat) d λa e=>by
  obtain⟨h0,f⟩:=c a e;exact j9.2 ⟨a.toNat,my.2 (by omega),by show(a.toNat:Int)=a;omega⟩
 simpa using this
def mC.len{f:cm}{n:Nat}(e:mA f n){p:Int}(j:0<=p/\p<(n:Int)){c:List cS}(h:mC f p c):c.length<n:=by
 obtain⟨q,d,_⟩:=h.ex;have:=Rv (n:=n) h.nd λx a=>by
  rcases kl.1 a with rfl |a
  .exact j
  .obtain⟨s,k,rfl⟩:=j9.1 a;exact(e.st s (d.mem s k).1).2.1
 simp at this;omega
def KZ{f:cm}{g:Nat}(b:mA f g):∀{ss:List cS},(∀a,a∈ss->a∈f.steps)->0<=gz ss/\gz ss<=1000099*(ss.length:Int)
 |[],_=>by simp[gz]
 |a::ss,c=>by
  have d:=KZ b (ss:=ss) λe h=>c e (by simp[h])
  have:=(b.st a (c a (by simp))).2.2;unfold gz at d⊢;simp only[km,o1,ey];omega
def amX(a:List cS)(b:cS):gz (a++[b])=gz a+b.time:=by
 unfold gz;rw[hK,List.sum_append];simp
def sG(f:cm)(b:List da)(c:Int)(a:cS):Bool:=c5 (a.from_=c/\jl f a=true/\(cg b a.b9).time=(cg b c).time -a.time/\(cg b a.b9).roads=(cg b c).roads -1)
def ab4{f:cm}{n:Nat}(i:mA f n){c:List da}(e:CI f n c){b:Int}(h:0<=b/\b<(n:Int)){a:cS}(j:a∈f.steps):EN LC a b f c=c7 (sG f c b a):=by
 obtain⟨m,g,p,o⟩:=i.st a j;have r:=e.len;have q:=e.oV a.b9 g.1 g.2;have l:=e.oV b h.1 h.2;unfold EN sG
 by_cases d:a.from_=b
 rotate_left
 .rw[aG d,decide_eq_false (λk=>d k.1)]
 rw[aC d,SH i j,aa];cases s:jl f a with
 |false=>rw[cond_false,decide_eq_false (by simp)]
 |true=>
  rw[cond_true,jF ig g.1 (by omega),aa,jF ig h.1 (by omega)];simp only[aa];rw[show oq c a.b9.toNat ig=cg c a.b9 from rfl,show oq c b.toNat ig=cg c b from rfl,aJ (n:=(cg c b).time -a.time),aJ (n:=(cg c b).roads -1)]
  congr 1
  rw[mb];simp[d]
def LA{f:cm}{m:Nat}(h:mA f m){p:Int}(w:0<=p/\p<(m:Int)):Ok (yN LC f p) λr=>r.2.2.2=true->∃a,mC f p a/\r.1=a.map (·.gX)/\r.2.1=p::a.map (·.b9)/\r.2.2.1=gz a:=by
 have ah:=h.sM;have ai:=h.safe;have Z:=h.num;unfold yN;refine aD (ajU h) λc k=>?_
 have ag:=k.ci.len;rw[jF ig w.1 (by omega),aa];refine aV (λ_=>ae (by intro L;cases L)) (λN=>?_)
 have J:(cg c p).time<(1152921504606846976:Int):=by
  have:¬(1152921504606846976:Int)<=(cg c p).time:=N;omega
 refine aD (Q:=λx=>∃a,mC f p a/\x.2=a.map (·.gX)/\x.1=p::a.map (·.b9)/\(cg c p).time=gz a) ?_ λx E=>?_
 .refine oa (λb=>∃a,lL f p a b.2.2/\(p::a.map (·.b9)).Nodup/\b.2.1=a.map (·.gX)/\b.1=p::a.map (·.b9)/\(cg c p).time=gz a+(cg c b.2.2).time/\(0<=b.2.2/\b.2.2<(m:Int))/\(cg c b.2.2).time<(1152921504606846976:Int)/\∀q,q∈p::a.map (·.b9)->(cg c b.2.2).roads<=(cg c q).roads) (λb=>(cg c b.2.2).roads.toNat) _ (λb H=>?_) _ ⟨[],(by show p=p;rfl),by simp,rfl,rfl,by simp[gz],w,J,λq d=>by simp at d;rw[d];exact eH _⟩
  obtain⟨V,ad,at_⟩:=b;obtain⟨a,j,l,rfl,rfl,y,e,A,s⟩:=H;dsimp only at j y e A s⊢;have F:=j.mem;have K:(p::a.map (·.b9)).length<=m:=Rv l λD g=>by
   rcases kl.1 g with rfl |g
   .exact w
   .obtain⟨b,o,rfl⟩:=j9.1 g;exact(h.st b (F b o).1).2.1
  have W:a.length+1<=m:=by simpa using K
  unfold Lo;rw[jF false e.1 (by omega),aa];cases t:f.safe.getD at_.toNat false with
  |true=>
   simp only[fe,cond_false];refine ae ⟨a,⟨⟨at_,j,e.1,t⟩,l⟩,rfl,rfl,?_⟩
   rw[y,k.ci.sf _ e.1 e.2 t];exact q5 _
  |false=>
   simp only[k7,cond_true];obtain⟨n,u1,u2,u3,u4⟩:=k.nx at_ e.1 e.2 t A;have v:Aj LC f.steps at_ f c=c7 (gg (sG f c at_) f.steps):=by
    unfold Aj;exact fF (by omega) (λD g=>ab4 h k.ci e g) λb=>rfl
   have I:0<=gg (sG f c at_) f.steps:=Aw.2 ⟨n,u1,by
    unfold sG;refine decide_eq_true ⟨u2,u3,?_,?_⟩
    .rw[u4];show _=(cg c n.b9).time+n.time -n.time;omega
    .rw[u4];show _=(cg c n.b9).roads+1 -1;omega⟩
   obtain⟨i,b,P,o,B,_⟩:=HN I;have z:=fC o;obtain⟨af,u,T,X⟩:=h.st b z;unfold sG at B;obtain⟨G,R,Y,S⟩:=of_decide_eq_true B;have ac:=k.ci.oV at_ e.1 e.2;have U:=k.ci.oV b.b9 u.1 u.2;rw[v,aa,P,bn,o];simp only[aa];rw[pN (by simp;omega),aa,pN (by simp;omega),aa];refine ae ⟨⟨a++[b],j.snoc z R G,?_,by simp,by simp,?_,u,?_,?_⟩,?_⟩
   .rw[hK, <-oS,List.nodup_append];refine⟨l,by simp,λD g ab C=>?_⟩
    simp at C;subst C;intro v;subst v;have:=s _ g;omega
   .dsimp only;rw[amX,y];omega
   .dsimp only;omega
   .dsimp only;intro q d;rw[hK, <-oS] at d;rcases e4.1 d with d |d
    .have:=s q d;omega
    .simp at d;rw[d];exact eH _
   .dsimp only;omega
 .obtain⟨a,j,l,M,O⟩:=E;rw[aa];exact ae λ_=>⟨a,j,l,M,O⟩
def acq{b:List cS}{a:List Int}(j:b.length<=300)(h:a.length<=300):Bm LC b a=c7 (b.filter λc=>!c5 (c.gX∈a)):=by
 have e:∀d,d∈b->ye LC d a=c7 (c5 (d.gX∈a)):=λd _=>by
  unfold ye;rw[contains_eq (by show a.length<=_;omega),aa]
 unfold Bm;have f:AM LC b a=c7 (gg (λc=>c5 (c.gX∈a)) b):=by
  unfold AM;exact fF (by omega) e λc=>rfl
 rw[f,aa];exact Hs (by omega) e λc i g=>rfl
def mC.up{f g:cm}(l:∀s,s∈g.steps->s∈f.steps)(d:g.safe=f.safe)(w:∀k,f.bad.getD k false=true->g.bad.getD k false=true){p:Int}{a:List cS}(h:mC g p a):mC f p a:=by
 obtain⟨q,e,n,j⟩:=h.ex;refine⟨⟨q,?_,n,by rw[<-d];exact j⟩,h.nd⟩
 have key:∀(a:List cS) (p:Int),lL g p a q->lL f p a q:=by
  intro a
  induction a with
  |nil=>exact λp h=>h
  |cons s a m=>
   intro p h;obtain⟨x,c,t,u⟩:=h;refine⟨l s x,?_,t,m _ u⟩
   unfold jl at c⊢;rw[d] at c;have:=w s.b9.toNat;cases o:f.bad.getD s.b9.toNat false with
   |false=>rw[k7,Bool.and_true];exact(j3 _ _▸c).1
   |true=>rw[this o] at c;simp at c
 exact key a p e
structure xU (m:ak) (e:bE) (p:Int) (r:List Int×List Int×ju) (ss1 ss2:List cS) (f:cm):Prop where
 there:lH m e/\0<=p/\p<=(m.ai.length:Int) -1
 find:w9 LC m e=c7 f
 fin:mA f m.ai.length
 so:∀s,s∈f.steps->mn m s
 p1:mC f p ss1
 p2:mC f p ss2
 r1:r.1=ss1.map (·.gX)
 r2:r.2.1=ss2.map (·.gX)
 t:r.2.2=⟨gz ss1,gz ss2⟩
 dis:∀s,s∈ss2->s.gX∉ss1.map (·.gX)
def S9{e:ak}{s:bE}{p:Int}(T:lO s)(W:Fit e.ai):Ok (r7 LC e s p) λr=>(r.2.2.2=false->r.1=[]/\r.2.1=[])/\(r.2.2.2=true->∃V t f,xU e s p (r.1,r.2.1,r.2.2.1) V t f):=by
 unfold r7;rw[ahk T W,aa]
 by_cases d:lH e s/\0<=p/\p<=(e.ai.length:Int) -1
 rotate_left
 .rw[decide_eq_false d];exact ae ⟨λ_=>⟨rfl,rfl⟩,by intro c;cases c⟩
 rw[decide_eq_true d,fe,cond_false,ahu];obtain⟨f,u,b,E⟩:=aol d.1;rw[u,aa,aa];dsimp only;rw[show Lk (JJ f)=f from rfl];have X:=b.safe;have ac:=b.sM;have S:=b.bad;rw[jF false d.2.1 (by omega),aa];cases B:f.safe.getD p.toNat false with
 |true=>exact ae ⟨(by intro c;cases c),λ_=>⟨[],[],f,d,u,b,E,⟨⟨p,rfl,d.2.1,B⟩,by simp⟩,⟨⟨p,rfl,d.2.1,B⟩,by simp⟩,rfl,rfl,rfl,λa k=>by cases k⟩⟩
 |false=>
  rw[cond_false];have z:0<=p/\p<(e.ai.length:Int):=⟨d.2.1,by omega⟩;refine aD (LA b z) λr m=>?_
  obtain⟨M,L,N,v⟩:=r;dsimp only at m⊢;cases v with
  |false=>exact ae ⟨λ_=>⟨rfl,rfl⟩,by intro c;cases c⟩
  |true=>
   obtain⟨j,y,rfl,rfl,rfl⟩:=m rfl;have Z:=y.len b z;obtain⟨q,I,_⟩:=y.ex;rw[fe,cond_false,l8 (by omega) (by simp;omega) (by omega),aa];refine aD (Q:=λo:List Bool=>o.length=e.ai.length/\∀h,f.bad.getD h false=true->o.getD h false=true) ?_ λo A=>?_
   .have C:(((p::j.map (·.b9)).drop ((1:Int).toNat)).take ((((p::j.map (·.b9)).length:Int)).toNat - (1:Int).toNat))=j.map (·.b9):=by
     rw[show((1:Int).toNat)=1 from rfl,List.drop_one,List.tail_cons,hM (by simp)]
    refine di j.length (λi a=>a.2=(i:Int)/\a.1.length=e.ai.length/\∀h,f.bad.getD h false=true->a.1.getD h false=true) _ (λi a H w=>?_) (λa w=>?_) _ ⟨rfl,S,λh c=>c⟩
    .obtain⟨O,h⟩:=a;obtain⟨rfl,n,l⟩:=w;dsimp only at n l⊢;unfold I9;dsimp only;have x:=c6 H;have F:=dd H;generalize j[i]=a at x F;have G:=(b.st a (I.mem a F).1).2.1;rw[C,aC (by rw[ez];omega),bn,o9,x,q2,aa,show(1:Int).toNat+((i:Int)).toNat=i+1 by omega,List.getElem?_cons_succ,o9,x,q2,aa,jF false G.1 (by omega),aa,get_at false G.1 (by omega),aa,aJ];refine ae ⟨rfl,by dsimp only;rw[dT];exact n,λK U=>?_⟩
     dsimp only;rw[ee,hI]
     split
     .rename_i Y;rw[if_pos (by omega)]
      rfl
     .rw[<-ee];exact l K U
    .obtain⟨O,h⟩:=a;obtain⟨rfl,n,l⟩:=w;dsimp only at n l⊢;unfold I9;dsimp only;rw[C,aG (by rw[ez];omega)];exact ae ⟨n,l⟩
   .rw[acq b.num (by rw[ez];omega),aa];have J:mA ({f with steps:=f.steps.filter λa=>!c5 (a.gX∈j.map (·.gX)),bad:=o}:cm) e.ai.length:=⟨b.MP,b.sM,b.safe,A.1,hz (kd _ _) b.num,λa k=>b.st a (l1.1 k).1⟩;refine aD (LA J z) λr m=>?_
    obtain⟨M,L,N,v⟩:=r;dsimp only at m⊢;cases v with
    |false=>exact ae ⟨λ_=>⟨rfl,rfl⟩,by intro c;cases c⟩
    |true=>
     obtain⟨t,D,rfl,rfl,rfl⟩:=m rfl;have P:mC f p t:=mC.up (f:=f) (g:=({f with steps:=f.steps.filter λa=>!c5 (a.gX∈j.map (·.gX)),bad:=o}:cm)) (λa k=>(l1.1 k).1) rfl A.2 D;refine ae ⟨(by intro c;cases c),λ_=>⟨j,t,f,d,u,b,E,y,P,rfl,rfl,rfl,λa k=>?_⟩⟩
     obtain⟨ab,R,_⟩:=D.ex;have:=(l1.1 (R.mem a k).1).2;simpa using this
def ann{m:ak}{p:Int}(t:m.af.length<=1000):Ok (v7 LC m p) λr=>0<=r/\r<=1000099:=by
 unfold v7;refine aD (Q:=λr:Int=>0<=r/\r<=1000099) ?_ λr f=>ae f
 have g:∀(i:Nat) (b:Bool),wT m (i:Int) b 2 3 4<=1000099:=λi b=>by
  rcases rF m (i:Int) b (u:=2) (d:=3) (l:=4) (by decide) with j |j <;> omega
 refine di m.af.length (λi a=>a.2=(i:Int)/\0<=a.1/\a.1<=1000099) _ (λi a n e=>?_) (λa e=>?_) _ ⟨rfl,eH _,by decide⟩
 .obtain⟨o,h⟩:=a;obtain⟨rfl,h0,c⟩:=e;dsimp only at h0 c⊢;unfold Kb;rw[aC,bn,c6 n,aa,AF,AF];have q:=g i false;have s:=g i true;simp only[aa];rw[aJ];refine aD (Q:=λr:Int=>0<=r/\r<=1000099) ?_ λr f=>aD (Q:=λr:Int=>0<=r/\r<=1000099) ?_ λv k=>ae ⟨rfl,k⟩
  .exact aV (λ_=>ae (by omega)) (λ_=>ae ⟨h0,c⟩)
  .exact aV (λ_=>ae (by omega)) (λ_=>ae f)
 .obtain⟨o,h⟩:=a;obtain⟨rfl,h0,c⟩:=e;dsimp only at h0 c⊢;unfold Kb;rw[aG];exact ae ⟨h0,c⟩
def xU.time{m:ak}{e:bE}{p:Int}{r:List Int×List Int×ju}{a d:List cS}{f:cm}(h:xU m e p r a d f):(0<=gz a/\gz a<=64006336)/\0<=gz d/\gz d<=64006336:=by
 have j:0<=p/\p<(m.ai.length:Int):=⟨h.there.2.1,by have:=h.there.2.2;omega⟩;have u:=h.p1.len h.fin j;have t:=h.p2.len h.fin j;have n:=h.fin.sM;obtain⟨w,c1,_⟩:=h.p1.ex;obtain⟨o,k,_⟩:=h.p2.ex;have l:=KZ h.fin λs c=>(c1.mem s c).1
 have x:=KZ h.fin λs c=>(k.mem s c).1
 omega
noncomputable def od(a:ak)(b:bE)(p:Int):Bool:=(r6 LC a b p).getD false
def L1{m:ak}{c:bE}{p:Int}(v:lO c)(x:Fit m.ai)(s:m.af.length<=1000):Ok (r6 LC m c p) λb=>b=true->∃r e d f a,r7 LC m c p=c7 (r.1,r.2.1,r.2.2,true)/\xU m c p r e d f/\v7 LC m p=c7 a/\(0<=a/\a<=1000099)/\a+gz e<=c.er/\a+gz d<=c.er:=by
 unfold r6;obtain⟨n,l,_,i⟩:=S9 (p:=p) v x;rw[l,aa];obtain⟨k,j,w,q⟩:=n;dsimp only at i⊢;cases q with
 |false=>exact ae (by intro g;cases g)
 |true=>
  obtain⟨e,d,f,h⟩:=i rfl;obtain⟨a,u,t⟩:=ann (m:=m) (p:=p) s;rw[cond_true,u,aa];have y:=h.time;have o:w=⟨gz e,gz d⟩:=h.t;subst o;dsimp only;rw[aJ];refine ae λg=>⟨(k,j,⟨gz e,gz d⟩),e,d,f,a,rfl,h,rfl,t,?_⟩
  have:=of_decide_eq_true g;omega
def U2{a:ak}{c:bE}{p:Int}(d:lO c)(f:Fit a.ai)(g:a.af.length<=1000):r6 LC a c p=c7 (od a c p):=by
 obtain⟨b,e,_⟩:=L1 (p:=p) d f g;unfold od;rw[e]
 rfl
def Ut{a:List Int}(d:Fit a):EZ LC a []=c7 false:=by
 unfold EZ;have c:zW LC a []=c7 (gg (λ_=>false) a):=by
  unfold zW;refine fF (P:=λb=>E7 LC b []) d (λb _=>?_) λe=>rfl
  unfold E7;rw[contains_eq (by show(0:Nat)<=_;omega),aa];simp
 rw[c,aa,gm];simp
def Le{m:ak}{l:List Int}(n:l=[]\/∃a,l=[a])(p:Sm m.ai)(s:Sm m.af):Ok (yB LC m l []) λr=>(r.2=0/\cP m/\∀a,l=[a]->(0<=a/\a<(m.af.length:Int))/\r.1=cY m a)\/r.2≠0:=by
 unfold yB;rw[ko,aa]
 by_cases e:cP m
 rotate_left
 .rw[decide_eq_false e];exact ae (.inr (by simp))
 have t:=e.1;have u:=e.2.1;have j:Fit l:=by
  show l.length<=_
  rcases n with d |⟨a,d⟩ <;> (rw[d];simp)
 rw[decide_eq_true e,fe,cond_false,aJ,kw _ _ _ j,aa]
 by_cases g:cj 0 ((m.af.length:Int) -1) l
 rotate_left
 .rw[decide_eq_false g];exact ae (.inr (by simp))
 rw[decide_eq_true g,fe,cond_false,kw _ _ _ (by decide),aa,decide_eq_true cj.nil,fe,cond_false,Ut j,aa,aa,cond_false,mV p,aa,nk s,aa];have k:∀h:List aZ,bO (λc:List aZ×Int=>T4 LC [] c.1 c.2) (h,0)=c7 h:=λh=>fZ rfl
 rcases n with rfl |⟨a,rfl⟩
 .have i:bO (λc:List aZ×Int=>Cj LC [] c.1 c.2) (m.af,0)=c7 m.af:=fZ rfl;refine c8 i ?_
  refine c8 (k _) ?_
  exact ae (.inl ⟨rfl,e,λa d=>by cases d⟩)
 .have o:=g.mem (e0.2 rfl);have i:bO (λc:List aZ×Int=>Cj LC [a] c.1 c.2) (m.af,0)=c7 (cY m a).af:=by
   have f:m.af[a.toNat]?=c7 (m.af[a.toNat]'(by omega)):=c6 (by omega);generalize m.af[a.toNat]'(by omega)=r at f;have q:aj m.af a=c7 r:=by unfold aj;rw[if_pos o.1];exact f
   rw[iO (a':=((cY m a).af,1)),fZ (b:=(cY m a).af)]
   .rfl
   .dsimp only;unfold Cj;rw[aC (by simp),show aj [a] 0=c7 a from rfl,aa,q,aa,f,aa];unfold cY;rw[f]
    rfl
  refine c8 i ?_
  refine c8 (k _) ?_
  refine ae (.inl ⟨rfl,e,λb d=>?_⟩)
  injection d with d _
  subst d;exact⟨⟨o.1,by omega⟩,rfl⟩
def apF{m:ak}{e:bE}{b:aL}{t a:Int}(j:lO e)(l:gF b):Ok (EU LC m e b t a) λh=>h=0->lH m e/\mz m b/\(0<=t/\t<=2147483648)/\0<=a/\a<=2147483648:=by
 unfold EU;rw[Jc j,aa]
 by_cases d:lH m e
 rotate_left
 .rw[decide_eq_false d];exact ae (by intro c;cases c)
 rw[decide_eq_true d,fe,cond_false];obtain⟨v,i,k⟩:=vB m b l;rw[i,aa,aa];cases v with
 |false=>exact ae (by intro c;cases c)
 |true=>
  rw[fe,cond_false,cF,aa]
  by_cases f:0<=t/\t<=2147483648
  rotate_left
  .rw[decide_eq_false f];exact ae (by intro c;cases c)
  rw[decide_eq_true f,fe,cond_false,cF,aa,aa]
  by_cases g:0<=a/\a<=2147483648
  rotate_left
  .rw[decide_eq_false g];exact ae (by intro c;cases c)
  rw[decide_eq_true g];exact ae λ_=>⟨d,k rfl,f,g⟩
def LS(b:aL)(a c:Int):(ld b a c).length<=64:=pQ
def abM{c:List Int}{a:ak}{b:bE}(m:c.length<=1000000)(g:lO b)(j:Fit a.ai)(k:a.af.length<=1000):zr LC c a b=c7 (c.filter λp=>!od a b p):=by
 have e:∀d,d∈c->w5 LC d a b=c7 (od a b d):=λd _=>by
  unfold w5;rw[U2 g j k,aa]
 unfold zr;have h:ER LC c a b=c7 (gg (od a b) c):=by
  unfold ER;exact fF (by omega) e λf=>rfl
 rw[h,aa];exact Hs (by omega) e λf i l=>rfl
def aa8{b a:List Int}(j:b.length<=1000000)(g:Fit a):Av LC b a=c7 (b.filter λp=>!c5 (p∈a)):=by
 have d:∀c,c∈b->za LC c a=c7 (c5 (c∈a)):=λc _=>by
  unfold za;rw[contains_eq g,aa]
 unfold Av;have f:zU LC b a=c7 (gg (λp=>c5 (p∈a)) b):=by
  unfold zU;exact fF (by omega) d λe=>rfl
 rw[f,aa];exact Hs (by omega) d λe i h=>rfl
def apc{m:ak}{e:bE}{b:aL}{t:Int}{f:ay}(q:b.aA[0]?=c7 f)(A:f.aH.length<=12)(o:gF b)(w:lO e)(x:Fit m.ai)(k:m.af.length<=1000):Ok (Bo LC m e b t) λc=>c.length<=768/\∀a:Nat,a<f.aH.length->∀p,p∈ld b (a:Int) t->p∈c\/od m e p=true:=by
 unfold Bo;rw[show aj b.aA 0=c7 f from q,aa];refine aD (Q:=λc:List Int=>c.length<=64*f.aH.length/\∀a:Nat,a<f.aH.length->∀p,p∈ld b (a:Int) t->p∈c) ?_ λc v=>?_
 .refine di f.aH.length (λi d=>d.2=(i:Int)/\d.1.length<=64*i/\∀a:Nat,a<i->∀p,p∈ld b (a:Int) t->p∈d.1) _ (λi d z n=>?_) (λd n=>?_) _ ⟨rfl,by simp,λa h=>absurd h (by omega)⟩
  .obtain⟨c,a⟩:=d;obtain⟨rfl,j,g⟩:=n;dsimp only at j g⊢;unfold Jp;have y:=LS b (i:Int) t;rw[aC,QC o,aa,aJ];refine aD (akS (by omega)) λr k=>ae ⟨by dsimp only;omega,by have:=k.1;dsimp only;omega,λa h p l=>?_⟩
   dsimp only;rw[k.2]
   by_cases u:a<i
   .exact .inl (g a u p l)
   .have:a=i:=by omega
    subst this;exact .inr l
  .obtain⟨c,a⟩:=d;obtain⟨rfl,j,g⟩:=n;dsimp only at j g⊢;unfold Jp;rw[aG];exact ae ⟨j,g⟩
 .rw[abM (by omega) w x k,aa];refine ae ⟨hz (kd _ _) (by omega),λa h p l=>?_⟩
  cases s:od m e p with
  |true=>exact .inr rfl
  |false=>exact .inl (l1.2 ⟨v.2 a h p l,by rw[s];rfl⟩)
def gG.pR{m:ak}{b a:aL}{t:Int}(e:gF b)(w:cP m)(h:gG (λx d=>mP m x t d) b.aA a.aA):gF a:=by
 refine⟨by show a.aA.length<=_;rw[h.1];exact e.1,λs j=>?_⟩
 obtain⟨c,o,l,n,y⟩:=h.back j;have:=e.2 c o;refine⟨by rw[l];exact this.tg,by show s.aH.length<=_;rw[n];exact this.wh,λd A=>?_⟩
 obtain⟨k,u,rfl⟩:=e5.1 A;have r:=y k _ _ (c6 (show k<c.aH.length by omega)) (c6 u);have C:=r.new.1.1;have B:=w.1;show _<=1000000
 omega
def uF(b:ak)(a:Int):(cY b a).af.length=b.af.length:=by
 unfold cY;dsimp only
 split
 .rw[dT]
 .rfl
structure Pp (m:ak) (e:bE) (b:aL) (a:Int) (al:List Int) (t ahead:Int) (r:ak×List Int×Int):Prop where
 fN:cP m
 oV:0<=a/\a<(m.af.length:Int)
 out:r.1=cY m a
 hZ:mz m b
 kI:lH m e
 ex:∃b',kW LC (cY m a) b t=c7 (b',0)/\∀w0,b'.aA[0]?=c7 w0->∀k:Nat,k<w0.aH.length->∀p,p∈ld b' (k:Int) (t+ahead)->p∈al\/od (cY m a) e p=true
def Ws{m:ak}{e:bE}{b:aL}{a:Int}{al:List Int}{t ahead:Int}(k:Sm m.ai)(y:Sm m.af)(D:lO e)(s:gF b)(Q:Fit al):Ok (zJ LC m e b [a] [] al t ahead) λr=>r.2.1.length<=768/\(r.2.2=0->Pp m e b a al t ahead r):=by
 unfold zJ;obtain⟨q,W,d⟩:=Le (m:=m) (l:=[a]) (.inr ⟨a,rfl⟩) k y;rw[W,aa];rcases d with⟨E,u,d⟩ |d
 rotate_left
 .rw[aC d];exact ae ⟨by simp,λc=>absurd c d⟩
 obtain⟨T,N⟩:=d a rfl;rw[aG (by rw[E];simp)];obtain⟨L,R,V⟩:=apF (m:=m) (e:=e) (b:=b) (t:=t) (a:=ahead) D s;rw[R,aa]
 by_cases i:L=0
 rotate_left
 .rw[aC i];exact ae ⟨by simp,λc=>absurd c i⟩
 obtain⟨O,x,af,Y⟩:=V i;have J:Fit m.ai:=by have:=u.1;show _<=4611686018427387904;omega
 have A:Fit (cY m a).ai:=J;have ag:=u.2.1;rw[aG (by rw[i];simp),N];obtain⟨j,v,G⟩:=Gq (cY m a) b t s A;rw[v,aa];rcases G with⟨f,X,ai,aj,g⟩ |⟨f,_⟩
 rotate_left
 .rw[aC f];exact ae ⟨by simp,λc=>absurd c f⟩
 have F:=gG.pR s X g;rw[aG (by rw[f];simp),aJ];have h:j.1.aA[0]?=c7 (j.1.aA[0]'(by rw[g.1];omega)):=c6 _;generalize j.1.aA[0]'(by rw[g.1];omega)=ac at h;obtain⟨P,S,Z,ah,_⟩:=g.back (fC h);have ad:=x.len P S;obtain⟨l,U,B⟩:=apc (m:=cY m a) (e:=e) (t:=t+ahead) h (by omega) F D A (by rw[uF];omega);have w:=B.1;rw[U,aa,bV (by show _<=1000000;omega),aa,aa8 (by omega) Q,aa];refine aV (λc=>?_) (λc=>?_)
 .obtain⟨z,M,_⟩:=Le (m:=m) (l:=[]) (.inl rfl) k y;rw[M,aa];exact ae ⟨hz (kd _ _) w,λc=>by cases c⟩
 .refine ae ⟨w,λ_=>⟨u,T,rfl,x,O,j.1,by rw[v, <-f],λab n K H p k=>?_⟩⟩
  rw[h] at n;injection n with n
  subst n;rcases B.2 K H p k with o |o
  .refine .inl ?_
   have I:l.filter (λp=>!c5 (p∈al))=[]:=List.length_eq_zero_iff.1 (by omega)
   by_cases C:p∈al
   .exact C
   .have:=List.filter_eq_nil_iff.1 I p o;simp[C] at this
  .exact .inr o
def zb{a:List aT}(h:Sm a)(j:∀r,r∈a->Sm r.aw):ry LC a=c7 a:=by
 unfold ry;have g:=jm (f:=λd=>tV LC a d.1 d.2) a (λb i=>(b,i)) (λb=>b) (λb r k c=>by
  show tV LC a b (b.length:Int)=_
  unfold tV;have e:=jW h c;rw[aC (iy c),jg c,aa,bV (j r (ks c)),aa,dm (by decide) e,aa,aJ]) (by
  show tV LC a a (a.length:Int)=_
  unfold tV;rw[aG])
 exact(dL g).trans rfl
def Sv{a:List aT}(c:Sm a)(b:∀r,r∈a->Sm r.aw):zp LC a=c7 a:=zb c b
def sF{b:aL}(e:gF b):pf LC b=c7 b:=by
 unfold pf;have h:=jm (f:=λd=>sB LC b d.1 d.2) b.aA (λa i=>(a,i)) (λa=>a) (λa r j c=>by
  show sB LC b a (a.length:Int)=_
  unfold sB;have g:=jW e.1 c;rw[aC (iy c),jg c,aa,Tz (e.2 r (ks c)),aa,dm (by decide) g,aa,aJ]) (by
  show sB LC b b.aA (b.aA.length:Int)=_
  unfold sB;rw[aG])
 exact(dL h).trans rfl
structure EW (p:aE):Prop where
 tr:ny p.au
 pl:Sm p.ao.ai
 rd:Sm p.ao.af
 fl:Sm p.cI
 es:Sm p.bR.akL
 eb:Sm p.bR.dg
 eh:Sm p.bR.dG
 ba:Sm p.bM.bT
 pe:Sm p.cq
 pt:∀r,r∈p.cq->Sm r.aw
 he:Sm p.bZ
 ht:∀r,r∈p.bZ->Sm r.aw
 il:Sm p.cW.dl
 io:Sm p.cW.dr
 be:gF p.bw
 se:gF p.bq
 sm:Sm p.bz.an
 kr:Sm p.aa2.af
 kk:Sm p.aa2.aa2
 al:Sm p.bS
 lg:Sm p.bB
 ln:∀h,h∈p.bB->Sm h.ll
def abi{p:aE}(a:EW p):wc LC p=c7 p:=by
 unfold wc;obtain⟨q,e,j⟩:=HQ a.tr.fit;rw[e,aa,mV a.pl,aa,nk a.rd,aa,zS a.fl,aa,bV a.es,aa,bV a.eb,aa,bV a.eh,aa,bV a.ba,aa,zb a.pe a.pt,aa,zb a.he a.ht,aa,bV a.il,aa,bV a.io,aa,sF a.be,aa,sF a.se,aa,bV a.sm,aa,bV a.kr,aa,bV a.kk,aa,wE a.al,aa,j];have h:=jm (f:=λd=>tO LC p (sN d) (sE d)) p.bB (λb i=>u16 ({p with bB:=b}:aE) i) (λb=>lR ({p with bB:=b}:aE)) (λb r k c=>by
  show tO LC p ({p with bB:=b}:aE) (b.length:Int)=_
  unfold tO;have g:=jW a.lg c;rw[aC (iy c),jg c,aa,bV (a.ln r (ks c)),aa,dm (by decide) g,aa,aJ]) (by
  show tO LC p p (p.bB.length:Int)=_
  unfold tO;rw[aG])
 exact(dL h).trans rfl
def abE{p:aE}(a:EW p):Cp LC p=c7 (OE p):=by
 unfold Cp;obtain⟨q,e,j⟩:=HQ a.tr.fit;rw[e,aa,mV a.pl,aa,nk a.rd,aa,zS a.fl,aa,bV a.es,aa,bV a.eb,aa,bV a.eh,aa,bV a.ba,aa,zb a.pe a.pt,aa,zb a.he a.ht,aa,bV a.il,aa,bV a.io,aa,sF a.be,aa,sF a.se,aa,bV a.sm,aa,bV a.kr,aa,bV a.kk,aa,wE a.al,aa,j];have h:=jm (f:=λd=>uo LC p (sN d) (sE d)) p.bB (λb i=>u16 ({p with bB:=b}:aE) i) (λb=>lR ({p with bB:=b}:aE)) (λb r k c=>by
  show uo LC p ({p with bB:=b}:aE) (b.length:Int)=_
  unfold uo;have g:=jW a.lg c;rw[aC (iy c),jg c,aa,bV (a.ln r (ks c)),aa,dm (by decide) g,aa,aJ]) (by
  show uo LC p p (p.bB.length:Int)=_
  unfold uo;rw[aG])
 exact(dL h).trans rfl
def aiT{p:aE}(a:EW p):Dr LC p=c7 (IW p):=by
 unfold Dr;obtain⟨q,e,j⟩:=HQ a.tr.fit;rw[e,aa,mV a.pl,aa,nk a.rd,aa,zS a.fl,aa,bV a.es,aa,bV a.eb,aa,bV a.eh,aa,bV a.ba,aa,Sv a.pe a.pt,aa,Sv a.he a.ht,aa,bV a.il,aa,bV a.io,aa,sF a.be,aa,sF a.se,aa,bV a.sm,aa,bV a.kr,aa,bV a.kk,aa,wE a.al,aa,j];have h:=jm (f:=λd=>uS LC p (Rx p.cq p.bZ d) (Tu d)) p.bB (λb i=>J3 ({p with bB:=b}:aE) i) (λb=>Mj ({p with bB:=b}:aE)) (λb r k c=>by
  show uS LC p ({p with bB:=b}:aE) (b.length:Int)=_
  unfold uS;have g:=jW a.lg c;rw[aC (iy c),jg c,aa,bV (a.ln r (ks c)),aa,dm (by decide) g,aa,aJ]) (by
  show uS LC p p (p.bB.length:Int)=_
  unfold uS;rw[aG])
 exact(dL h).trans rfl
structure fM (n np:Nat) (b:aL):Prop where
 num:b.aA.length<=24
 mX:∀w,w∈b.aA->j0 n np w/\w.aw.length=n
def fM.pR{n np:Nat}(l:n<=3)(k:np<=64){b:aL}(h:fM n np b):gF b:=⟨cX h.num (by decide),λc d=>by
 obtain⟨⟨j,a⟩,m⟩:=h.mX c d;exact⟨cX (n:=3) (by omega) (by decide),cX (n:=3) (by omega) (by decide),λx e=>cX (n:=64) (by have:=a x e;omega) (by decide)⟩⟩
def fM.nil{n np:Nat}:fM n np ⟨[]⟩:=⟨by simp,λc a=>by cases a⟩
def fM.aX{n np:Nat}{e:aM->aM->Prop}{C:aM->Prop}{m:ak}{tag:Int}{b k:aL}(h:fM n np b)(s:∀x a,e x a->x.an.length=np->a.an.length=np)(l:oG e C m tag b k):fM n np k:=by
 refine⟨hz l.n.len h.num,λw o=>?_⟩
 obtain⟨d,u,i,x,a,E,t,A,rfl⟩:=l.n.from_ w o;obtain⟨⟨D,j⟩,y⟩:=h.mX d u;refine⟨⟨by show(d.aH.set i a).length=n;rw[dT];exact D,λB c=>?_⟩,y⟩
 rcases ev c with c |rfl
 .exact j B c
 .exact s x _ A (j x (fC t))
def fM.Np{n np:Nat}{m:ak}{i c t:Int}{b e:aL}(h:fM n np b)(j:AY m i c t n np b e):fM n np e:=by
 refine⟨j.num,λx k=>?_⟩
 obtain⟨l,o,C,E,D,y⟩:=j.ex;obtain⟨B,a,w,A⟩:=o.c x k;refine⟨B,?_⟩
 rw[A];rcases y a w with s |⟨d,u,rfl⟩
 .exact(h.mX a s).2
 .have:=(h.mX d u).2;show(gL i c d.aw).length=n
  unfold gL
  split
  .rw[dT,dT];exact this
  .exact this
def fM.renew{n np:Nat}{m:ak}{t:Int}{b d:aL}(h:fM n np b)(u:m.ai.length=np)(e:gG (λx c=>mP m x t c) b.aA d.aA):fM n np d:=by
 refine⟨by rw[e.1];exact h.num,λD j=>?_⟩
 obtain⟨a,o,l,B,y⟩:=e.back j;obtain⟨⟨E,C⟩,s⟩:=h.mX a o;refine⟨⟨by omega,λc A=>?_⟩,by rw[l];exact s⟩
 obtain⟨k,w,rfl⟩:=e5.1 A;have r:=y k _ _ (c6 (show k<a.aH.length by omega)) (c6 w);rw[r.new.1.1,u]
def fM.shut{n np:Nat}{m:ak}{l:List Int}{t:Int}{b d:aL}(h:fM n np b)(y:Ff m b l t n np d):fM n np d:=by
 obtain⟨D,C,A,a,c⟩:=y.ex;refine⟨hz c.d (by rw[a.1];exact h.num),λs e=>?_⟩
 obtain⟨x,B,o,u⟩:=c.c s e;obtain⟨w,k,j,_⟩:=a.back o;exact⟨x,by rw[u,j];exact(h.mX w k).2⟩
def Ro{e:ak}{c:Nat}(h:e.ai.length=c){j:List Int}{i f:Int}:∀b a:aM,(a=b\/lG e b j i f a)->b.an.length=c->a.an.length=c:=λb a d g=>by
 rcases d with rfl |d
 .exact g
 .rw[d.new.1.1,h]
def T3{e:ak}{c:Nat}(j:e.ai.length=c){l:List Int}{k f m:Int}:∀b a:aM,(a=b\/∃h,og e b l k f m a h)->b.an.length=c->a.an.length=c:=λb a d i=>by
 rcases d with rfl |⟨g,d⟩
 .exact i
 .rw[d.new.1.1,j]
structure dW (n np:Nat) (p:aE):Prop where
 n3:1<=n/\n<=3
 kN:ny p.au
 fN:p.au.ao=p.ao
 gq:cP p.ao
 gk:p.ao.ai.length=np
 iz:p.au.aN.length=n
 jR:p.au.aQ.length<=3
 kj:p.au.bp.length=p.au.aQ.length
 uD:p.cI.length=p.ao.af.length
 kI:lO p.bR/\Sm p.bR.akL/\Sm p.bR.dg/\Sm p.bR.dG
 qx:Sm p.bM.bT
 kn:p.cq.length=p.au.aQ.length
 rX:∀r,r∈p.cq->r.aw.length<=1000
 uB:p.bZ.length<=60
 rW:∀r,r∈p.bZ->r.aw.length<=1000
 int:Sm p.cW.dl/\Sm p.cW.dr
 hZ:fM n np p.bw
 bne:p.bw.aA≠[]
 je:fM n np p.bq
 pq:p.bz.an=[]\/p.bz.an.length=np
 key:ff p.aa2
 jY:cj 0 ((p.ao.af.length:Int) -1) p.aa2.af
 iI:VA p.bS
 log:p.bB.length<=200
 uC:∀h,h∈p.bB->h.ll.length<=768
def dW.mq{n np:Nat}{p:aE}(h:dW n np p):np<=64:=by have:=h.gq.1;have:=h.gk;omega
def dW.lC{n np:Nat}{p:aE}(h:dW n np p):EW p:=by
 have d:=h.mq;have a:=h.gq;have j:=h.n3;refine⟨h.kN,cX a.1 (by decide),cX a.2.1 (by decide),cX (n:=128) (by have:=h.uD;have:=a.2.1;omega) (by decide),h.kI.2.1,h.kI.2.2.1,h.kI.2.2.2,h.qx,cX (n:=3) (by have:=h.kn;have:=h.jR;omega) (by decide),λr c=>cX (h.rX r c) (by decide),cX h.uB (by decide),λr c=>cX (h.rW r c) (by decide),h.int.1,h.int.2,h.hZ.pR j.2 d,h.je.pR j.2 d,?_,h.key.sm.1,h.key.sm.2,cX h.iI.1 (by decide),cX h.log (by decide),λx k=>cX (h.uC x k) (by decide)⟩
 rcases h.pq with e |e
 .rw[e];show(0:Nat)<=_;decide
 .exact cX (n:=64) (by omega) (by decide)
def U4{d e:Nat}{p:aE}(a:dW d e p):Ok (zj LC p) λb=>b=true->fw p.au:=by
 classical
 unfold zj;rw[xf _ a.kN.fit,aa]
 by_cases c:fw p.au
 rotate_left
 .rw[decide_eq_false c];exact ae (by intro a;cases a)
 rw[decide_eq_true c,cond_true,ko,aa,decide_eq_true a.gq,cond_true,aC (by have:=a.kn;omega),aC (by have:=a.uD;omega),aC (by have:=List.length_pos_iff.2 a.bne;omega),tA (hz a.key.sm.1 (by decide)),aa];exact ae λ_=>c
end Go.X.T
