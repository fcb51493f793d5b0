/- For TopWhole, part 6. -/
import Derived.Test.YtfljhldgncdifaaGreatWE
set_option linter.defProp false
set_option linter.unusedVariables false
set_option linter.unusedSimpArgs false
open Go.IntKind renaming wrap → c3, i64 → c4, u64 → hQ
open Decidable renaming decide → c5, byContradiction → dv, not_not → ej
open List renaming getElem?_eq_getElem → c6, getElem_mem → dd, getElem?_eq_some_iff → dt, length_set → dT, mem_singleton → e0, mem_append → e4, mem_iff_getElem → e5, length_replicate → e6, length_take → ea, replicate → ec, getD_eq_getElem?_getD → ee, zipWith → ef, length_append → eo, mem_or_eq_of_mem_set → ev, length_cons → ez, length_map → eE, getElem?_append_right → eH, length_zipWith → ga, drop_eq_getElem_cons → gb, getElem?_set_self → gv, eq_of_mem_replicate → gx, take_length → gy, length_drop → h5, getElem?_append_left → h6, pairwise_iff_getElem → h7, getElem?_set_ne → h9, getElem?_replicate → hq, append_assoc → hB, getElem?_set → hI, map_append → hK, length_nil → hL, take_of_length_le → hM, mem_iff_getElem? → hP, getElem_zipWith → hS, perm_singleton → hU, set_cons_zero → hX, drop_of_length_le → ie, getElem?_eq_none → ih, mem_map → j9, drop_zero → k0, set_append_right → k8, length_filter_le → kd, mem_cons → kl, map_cons → km, take_append_of_le_length → l0, mem_filter → l1, set_cons_succ → l2, getElem?_take → l3, pairwise_cons → l4, ext_getElem? → la, any_eq_false → m1, any_eq_true → m2, nil_append → mb, mem_range → mx, filter_eq_self → n0, take_set_of_le → n1, sum_cons → ng, filter_append → o2, take_add_one → o3, getElem_take → o4, flatMap_cons → o8, getElem?_map → o9, getElem_map → oi, getElem_set → oo, getD → oq, cons_append → oS, append_nil → p4, foldl_cons → p7, take_take → q3, mem_set → qa
open Option renaming some → c7, none → j5, map_some → q2, bind → qq
open Int renaming toNat_natCast → dk, le_refl → ey, fdiv_eq_ediv_of_nonneg → j1, eq_ofNat_of_zero_le → j7, emod_add_mul_ediv → kc, zero_add → m6, mul_le_mul → my, mul_assoc → n2, pow_succ → o6, mul_comm → o7, ediv_le_self → oj, ediv_nonneg → p6, natCast_pow → pc, lt_irrefl → q4, add_zero → q5, zero_mul → q6, le_trans → q7
open Sum renaming elim_inr → ei, elim_inl → ft, inl → m0
open Bool renaming not_true → fe, false_eq_true → hY, or_eq_false_iff → j3, and_eq_true → j4, not_false → k7, eq_iff_iff → ma
open Nat renaming le_refl → h8, le_trans → hz, sub_self → j8, mod_eq_of_lt → kh, zero_add → m4, add_sub_cancel → o1, zero_le → p0, add_zero → q8, min_self → qb
open List.Perm renaming cons_inv → hD, swap → k6
open BitVec renaming ofInt_natCast → j2, toNat_ofNat → j6, ofInt → m5
open Classical renaming propDecidable → m3
namespace Go.X.T
open Go Go.Aml
structure ny (x:aB):Prop where
 pl:Sm x.ao.ai
 rd:Sm x.ao.af
 pe:Sm x.aN
 tg:Sm x.aw
 rs:Sm x.aQ
 rp:∀r,r∈x.aQ->Sm r.ai
 nu:Sm x.cn
 lo:Sm x.cf
 mi:Sm x.bp
 mr:∀l,l∈x.bp->Sm l
def cX{c:Type}{a:List c}{n:Nat}(b:a.length<=n)(d:n<=1000000):Sm a:=hz b d
def fw.sm{x:aB}(h:fw x):ny x:=by
 obtain⟨⟨d,o,l⟩,s,y,B,t,A,w,u,j,D⟩:=h;refine⟨cX d.1 (by decide),cX d.2.1 (by decide),cX s.2 (by decide),cX (n:=12) (by omega) (by decide),cX o (by decide),λr m=>?_,cX (n:=32) (by omega) (by decide),cX (n:=32) (by omega) (by decide),cX (n:=32) (by omega) (by decide),λE k=>?_⟩
 .have:=(l r m).2.1.len (by omega);have:=d.1;exact cX (n:=64) (by omega) (by decide)
 .obtain⟨i,hi,rfl⟩:=e5.1 k;obtain⟨r,a,b,c,_,_,_,e,_,_,_,C,_⟩:=j i (by omega);rw[c6 hi] at e;injection e with e
  rw[e];exact cX (n:=12) (by omega) (by decide)
def ny.fit{x:aB}(h:ny x):∀r,r∈x.aQ->Fit r.ai:=λr a=>hz (h.rp r a) (by decide)
def jW{b:Type}{a done f:List b}{c:b}(e:Sm a)(d:a=done++c::f):done.length<=2000000:=by
 have g:a.length<=1000000:=e;have:=iy d;omega
def jZ{c:Type}{a:List c}(b:Sm a):a.length<=1000000:=b
def dL{b d:Type}{m:Option b}{a:b}{c:b->Option d}(e:m=c7 a):m.bind c=c a:=by subst e;rfl
def agL{x:aB}(b:ny x):yS LC x=c7 x:=by
 unfold yS;rw[mV b.pl,aa,nk b.rd,aa,Ep b.pe,aa,bV b.tg,aa];have g:=jm (f:=λd=>ue LC x (Oe d) (Nk d)) x.aQ (λa i=>u9 ({x with aQ:=a}:aB) i) (λa=>u3 ({x with aQ:=a}:aB)) (λa r h c=>by
  show ue LC x ({x with aQ:=a}:aB) (a.length:Int)=_
  unfold ue;have e:=jW b.rs c;rw[aC (iy c),jg c,aa,bV (b.rp r (ks c)),aa,dm (by decide) e,aa,aJ]) (by
  show ue LC x x (x.aQ.length:Int)=_
  unfold ue;rw[aG])
 refine(dL g).trans ?_
 dsimp only;rw[bV b.nu,aa,bV b.lo,aa];have j:=jm (f:=λd=>tG LC x (CU d) (Eg d)) x.bp (λa i=>u1 ({x with bp:=a}:aB) i) (λa=>u3 ({x with bp:=a}:aB)) (λa r h c=>by
  show tG LC x ({x with bp:=a}:aB) (a.length:Int)=_
  unfold tG;have e:=jW b.mi c;rw[aC (iy c),jg c,aa,bV (b.mr r (ks c)),aa,dm (by decide) e,aa,aJ]) (by
  show tG LC x x (x.bp.length:Int)=_
  unfold tG;rw[aG])
 exact(dL j).trans rfl
def Sy{a:aB}(c:ny a):yC LC a=c7 (B7 a):=by
 unfold yC;rw[mV c.pl,aa,nk c.rd,aa,Ep c.pe,aa,bV c.tg,aa];have h:=jm (f:=λe=>sK LC a (Pa a.aN e) (Oj e)) a.aQ (λb i=>Ga ({a with aQ:=b}:aB) i) (λb=>DY ({a with aQ:=b}:aB)) (λb r j d=>by
  show sK LC a ({a with aQ:=b}:aB) (b.length:Int)=_
  unfold sK;have g:=jW c.rs d;rw[aC (iy d),jg d,aa,bV (c.rp r (ks d)),aa,dm (by decide) g,aa,aJ]) (by
  show sK LC a a (a.aQ.length:Int)=_
  unfold sK;rw[aG])
 refine(dL h).trans ?_
 dsimp only;rw[bV c.nu,aa,bV c.lo,aa];have k:=jm (f:=λe=>vc LC a (LU a.aN e) (Tv e)) a.bp (λb i=>J4 ({a with bp:=b}:aB) i) (λb=>DY ({a with bp:=b}:aB)) (λb r j d=>by
  show vc LC a ({a with bp:=b}:aB) (b.length:Int)=_
  unfold vc;have g:=jW c.mi d;rw[aC (iy d),jg d,aa,bV (c.mr r (ks d)),aa,dm (by decide) g,aa,aJ]) (by
  show vc LC a a (a.bp.length:Int)=_
  unfold vc;rw[aG])
 exact(dL k).trans rfl
def ans{a:aB}(c:ny a):D6 LC a=c7 (MF a):=by
 unfold D6;rw[mV c.pl,aa,nk c.rd,aa,Ep c.pe,aa,bV c.tg,aa];have h:=jm (f:=λe=>tW LC a (MR a.ao.af a.aN e) (L9 e)) a.aQ (λb i=>KL ({a with aQ:=b}:aB) i) (λb=>CD ({a with aQ:=b}:aB)) (λb r j d=>by
  show tW LC a ({a with aQ:=b}:aB) (b.length:Int)=_
  unfold tW;have g:=jW c.rs d;rw[aC (iy d),jg d,aa,bV (c.rp r (ks d)),aa,dm (by decide) g,aa,aJ]) (by
  show tW LC a a (a.aQ.length:Int)=_
  unfold tW;rw[aG])
 refine(dL h).trans ?_
 dsimp only;rw[bV c.nu,aa,bV c.lo,aa];have k:=jm (f:=λe=>va LC a (R4 a.ao.af a.aN e) (Lw e)) a.bp (λb i=>IC ({a with bp:=b}:aB) i) (λb=>CD ({a with bp:=b}:aB)) (λb r j d=>by
  show va LC a ({a with bp:=b}:aB) (b.length:Int)=_
  unfold va;have g:=jW c.mi d;rw[aC (iy d),jg d,aa,bV (c.mr r (ks d)),aa,dm (by decide) g,aa,aJ]) (by
  show va LC a a (a.bp.length:Int)=_
  unfold va;rw[aG])
 exact(dL k).trans rfl
def oc{a:aB}(c:ny a){k:Type}(g:List bP->List aZ->Int->List bC->List Int->List aS->List Int->List Int->Option k):
 FD LC a g=g a.ao.ai a.ao.af a.aa0 a.aN a.aw a.aQ a.cn a.cf:=by
 unfold FD;rw[mV c.pl,aa,nk c.rd,aa,Ep c.pe,aa,bV c.tg,aa];have h:=jm (f:=λb=>DC LC a b.1 b.2.1 b.2.2.1 b.2.2.2.1 b.2.2.2.2.1 b.2.2.2.2.2.1 b.2.2.2.2.2.2.1 b.2.2.2.2.2.2.2.1 b.2.2.2.2.2.2.2.2) a.aQ (λd i=>(a.ao.ai,a.ao.af,a.aa0,a.aN,a.cn,a.cf,a.bp,d,i)) (λd=>(a.ao.ai,a.ao.af,a.aa0,a.aN,d,a.cn,a.cf,a.bp)) (λd r l e=>by
  dsimp only;unfold DC;have j:=jW c.rs e;rw[aC (iy e),jg e,aa,bV (c.rp r (ks e)),aa,dm (by decide) j,aa,aJ]) (by
  dsimp only;unfold DC;rw[aG])
 refine(dL h).trans ?_
 dsimp only;rw[bV c.nu,aa,bV c.lo,aa]
def other(a:ak)(i p:Int):Int:=if 0<=i then(match a.af[i.toNat]? with |some r=>if p=r.an then r.To else if p=r.To then r.an else -1 |none=>-1) else -1
def ajF(a:ak)(i p:Int):CX LC a i p=c7 (other a i p):=by
 unfold CX other;rw[ew rfl,aa]
 by_cases d:i<0\/(a.af.length:Int)<=i
 .rw[aC d]
  by_cases h0:0<=i
  .rw[if_pos h0,ih (by omega)]
  .rw[if_neg h0]
 .have e:i.toNat<a.af.length:=by omega
  rw[aG d,qC (by omega) (by omega),aa,if_pos (by omega),c6 e];dsimp only
  by_cases c:p=a.af[i.toNat].an
  .rw[aC c,if_pos c]
  .rw[aG c,if_neg c]
   by_cases b:p=a.af[i.toNat].To
   .rw[aC b,if_pos b]
   .rw[aG b,if_neg b]
def NJ{b:Type}{f:List b×Int->Option ((List b×Int)⊕List b)}(g:b->b)(a:List b)
 (h:∀(i:Nat) (aK:List b) (d:b),i<a.length->aK.length=a.length->aK[i]?=c7 d->a[i]?=c7 d->f (aK,(i:Int))=c7 (.inl (aK.set i (g d),(i:Int)+1)))
 (j:∀aK:List b,aK.length=a.length->f (aK,(a.length:Int))=c7 (.inr aK)):bO f (a,0)=c7 (a.map g):=by
 have:=nV (f:=f) a.length (λi=>((a.take i).map g++a.drop i,(i:Int))) (a.map g) (λi c=>?_) (by
  have:=j ((a.take a.length).map g++a.drop a.length) (by simp);rw[this];simp)
 .simpa using this
 .have e:((a.take i).map g).length=i:=by rw[eE,ea];omega
  have l:((a.take i).map g++a.drop i)[i]?=c7 a[i]:=by
   rw[eH (by omega),e,j8,gb c];rfl
  rw[h i _ a[i] c (by rw[eo,e,h5];omega) l (c6 c)];have k:((a.take i).map g++a.drop i).set i (g a[i])=(a.take (i+1)).map g++a.drop (i+1):=by
   rw[k8 _ _ (by omega),e,j8,gb c,hX, <-List.take_append_getElem c,hK,hB]
   rfl
  rw[k]
  rfl
def uf(c:ak)(b:Int)(a:bC):bC:=if a.akw<0 then a else if a.ami -b<=0 then⟨other c a.akw a.abG,-1,0⟩ else⟨a.abG,a.akw,a.ami -b⟩
def x7(a:aB)(b:Int):aB:={a with aa0:=a.aa0+b,aN:=a.aN.map (uf a.ao b)}
def ou{d:Type}{a:List d}{i:Nat}{b:d}(c:a[i]?=c7 b):a.set i b=a:=by
 apply la
 intro f;rw[hI]
 by_cases e:i=f
 .subst e;have:=(dt.1 c).1;rw[if_pos rfl,if_pos this,c]
 .rw[if_neg e]
def RE{a:aB}(b:Int)(p:∀r,r∈a.aQ->Fit r.ai):Ok (qp LC a b) λr=>(r.2≠0/\r.1=a)\/(r.2=0/\fw a/\0<=b/\a.aa0+b<=2147483648/\r.1=x7 a b):=by
 unfold qp;rw[xf a p,aa,de]
 by_cases c:fw a
 rotate_left
 .rw[aG c];exact ae (.inl ⟨by simp,rfl⟩)
 rw[aC c,cF,aa,de];have t:=c.2.2.2.2.1;refine aV (λk=>?_) (λk=>ae (.inl ⟨by simp,rfl⟩))
 rw[aJ (n:=a.aa0+b)];refine aV (λm=>ae (.inl ⟨by simp,rfl⟩)) (λm=>?_)
 rw[Sy c.sm,aa];have q:bO (λe=>vz LC (Bi (B7 a)) b a e.1 e.2) ((Bi (B7 a)).aN,0)=c7 (a.aN.map (uf a.ao b)):=by
  refine NJ (f:=λe=>vz LC a b a e.1 e.2) (uf a.ao b) a.aN (λi aK d w s j o=>?_) (λaK s=>?_)
  .dsimp only;unfold vz;have v:=c.2.1;rw[aC,bn,j,aa,dk,j,aa,aJ (n:=(i:Int)+1)];have l:=c.2.2.2.2.2.2.2.2.2 d (fC o);have u:0<=d.ami/\d.ami<=2147483648:=by
    have:=l.2
    split at this <;> omega
   rw[aJ (n:=d.ami -b)];unfold uf
   by_cases h:d.akw<0
   .rw[aC h,if_pos h,aa,ou j]
   .rw[aG h,if_neg h]
    by_cases g:d.ami -b<=0
    .rw[aC g,if_pos g,ajF,aa,aa,aa,aa,aa]
    .rw[aG g,if_neg g,aa,aa,aa,aa]
  .dsimp only;unfold vz;rw[aG]
 dsimp only;refine c8 q ?_
 refine ae (.inr ⟨rfl,c,k.1,by omega,?_⟩)
 show({a with aa0:=c3 c4 (a.aa0+b),aN:=_}:aB)=x7 a b
 rw[aJ]
 rfl
def WV{a:aB}(g:fw a):x7 a 0=a:=by
 unfold x7;have f:a.aN.map (uf a.ao 0)=a.aN:=by
  conv=>rhs;rw[<-List.map_id a.aN]
  refine List.map_congr_left λc d=>?_
  unfold uf;have e:=(g.2.2.2.2.2.2.2.2.2 c d).2
  by_cases b:c.akw<0
  .rw[if_pos b];rfl
  .rw[if_neg b];rw[if_neg (by omega)] at e;rw[if_neg (by omega),Int.sub_zero];rfl
 rw[f,q5]
def HQ{b:aB}(d:∀r,r∈b.aQ->Fit r.ai):Ok (qp LC b 0) λr=>r.1=b:=by
 refine alt (RE 0 d) λr a=>?_
 rcases a with a |⟨_,a,_,_,c⟩
 .exact a.2
 .rw[c,WV a]
def LZ{b:aB}(a:List Int)(j:∀r,r∈b.aQ->Fit r.ai)(p:a.length<=100):Ok (wv LC b a) λg=>(g=0->fw b/\∀i,i∈a->0<=i/\i<(b.aN.length:Int)):=by
 unfold wv;rw[xf b j,aa,de]
 by_cases e:fw b
 rotate_left
 .rw[aG e];exact ae λc=>absurd c (by simp)
 rw[aC e];have o:=e.2.1;have g:bO (λf=>wC LC a b f) 0=c7 (if ∀i,i<a.length->(λi:Nat=>c5 (¬(0<=a.getD i 0/\a.getD i 0<=(b.aN.length:Int) -1))) i=false then .inr () else .inl ()):=by
  refine oD _ _ () (λi d=>?_) ?_
  .unfold wC;rw[aC,uu d,aa,aJ (n:=(b.aN.length:Int) -1),cF,aa,aJ]
   by_cases c:0<=a.getD i 0/\a.getD i 0<=(b.aN.length:Int) -1
   .rw[decide_eq_true c,decide_eq_false (λh=>h c)];rfl
   .rw[decide_eq_false c,decide_eq_true c];rfl
  .unfold wC;rw[aG]
 rw[show LC.loop (λf=>wC LC a b f) 0=_ from g,aa]
 by_cases c:∀i,i<a.length->0<=a.getD i 0/\a.getD i 0<=(b.aN.length:Int) -1
 .rw[if_pos (λi d=>decide_eq_false (λh=>h (c i d)))];refine ae λ_=>⟨e,λm k=>?_⟩
  obtain⟨i,d,rfl⟩:=e5.1 k;have:=c i d;rw[pu (c6 d)] at this;omega
 .rw[if_neg (λl=>c λi d=>by have:=of_decide_eq_false (l i d);exact dv this)];exact ae λc=>absurd c (by simp)
def set_set{b:Type}(c:List b)(i:Nat)(d a:b):(c.set i d).set i a=c.set i a:=List.set_set _
def ahi{b:aB}(i r f:Int)(n:∀r,r∈b.aQ->Fit r.ai):Ok (B1 LC b i r f) λq=>(q.2≠0/\q.1=b)\/
 (q.2=0/\fw b/\0<=i/\(0<=f/\f<=3600)/\∃a,b.aN[i.toNat]?=c7 a/\a.akw<0/\0<=mQ b.ao r a.abG/\q.1={b with aN:=b.aN.set i.toNat ⟨a.abG,r,mQ b.ao r a.abG+f⟩}):=by
 unfold B1;refine aD (LZ [i] n (by simp)) λA v=>?_
 refine aV (λc=>ae (.inl ⟨c,rfl⟩)) (λc=>?_)
 obtain⟨h,e⟩:=v (ej.1 c);have e:=e i (by simp);have g:b.aN[i.toNat]?=c7 (b.aN[i.toNat]'(by omega)):=c6 (by omega);generalize b.aN[i.toNat]'(by omega)=a at g;have j:∀l:List bC,l[i.toNat]?=c7 a->aj l i=c7 a:=λl o=>by
  unfold aj;rw[if_pos e.1];exact o
 have s:=h.1.1;have:=s.2.1;rw[j _ g,aa,Tt _ _ _ (by omega),aa];refine aV (λc=>ae (.inl ⟨by simp,rfl⟩)) (λy=>?_)
 refine aV (λc=>ae (.inl ⟨by simp,rfl⟩)) (λx=>?_)
 rw[cF,aa,de];refine aV (λp=>?_) (λc=>ae (.inl ⟨by simp,rfl⟩))
 rw[Sy h.sm,aa];have m:i.toNat<b.aN.length:=by omega
 show Ok ((aj b.aN i).bind _) _
 rw[j _ g,aa];show Ok ((b.aN[i.toNat]?).bind _) _
 rw[g,aa];have k:(b.aN.set i.toNat (bC.mk a.abG r a.ami))[i.toNat]?=c7 (bC.mk a.abG r a.ami):=gv m;have t:aj (b.aN.set i.toNat (bC.mk a.abG r a.ami)) i=c7 (bC.mk a.abG r a.ami):=by unfold aj;rw[if_pos e.1];exact k
 show Ok ((aj (b.aN.set i.toNat (bC.mk a.abG r a.ami)) i).bind _) _
 rw[t,aa];show Ok (((b.aN.set i.toNat (bC.mk a.abG r a.ami))[i.toNat]?).bind _) _
 rw[k,aa];refine ae (.inr ⟨rfl,h,e.1,p,a,rfl,by omega,by omega,?_⟩)
 show({b with aN:=(b.aN.set i.toNat (bC.mk a.abG r a.ami)).set i.toNat (bC.mk a.abG r (c3 c4 (mQ b.ao r a.abG+f)))}:aB)=_
 have B:mQ b.ao r a.abG<=1000099:=by
  unfold mQ;have w:=rF b.ao r false (u:=6) (d:=9) (l:=12) (by decide);have z:=rF b.ao r true (u:=6) (d:=9) (l:=12) (by decide)
  split
  .split
   .split
    .omega
    .split <;> omega
   .omega
  .omega
 rw[set_set,aJ]
def cY(a:ak)(i:Int):ak:=⟨a.ai,match a.af[i.toNat]? with |some r=>a.af.set i.toNat {r with eN:=true} |none=>a.af⟩
def n8(i:Int)(a:bC):bC:=if a.akw=i then⟨a.abG,-1,0⟩ else a
def Uf{x:aB}(i:Int)(h:∀r,r∈x.aQ->Fit r.ai):Ok (wO LC x i) λq=>(q.2≠0/\q.1=x)\/
 (q.2=0/\fw x/\0<=i/\(∃r,x.ao.af[i.toNat]?=c7 r/\r.eN=false)/\q.1={x with ao:=cY x.ao i,aN:=x.aN.map (n8 i)}):=by
 unfold wO;rw[xf x h,aa,de]
 by_cases a:fw x
 rotate_left
 .rw[aG a];exact ae (.inl ⟨by simp,rfl⟩)
 rw[aC a];have s:=a.1.1.2.1;rw[aJ (n:=(x.ao.af.length:Int) -1),cF,aa,de]
 by_cases d:0<=i/\i<=(x.ao.af.length:Int) -1
 rotate_left
 .rw[aG d,aa];exact ae (.inl ⟨by simp,rfl⟩)
 have c:x.ao.af[i.toNat]?=c7 (x.ao.af[i.toNat]'(by omega)):=c6 (by omega);generalize x.ao.af[i.toNat]'(by omega)=r at c;have g:aj x.ao.af i=c7 r:=by unfold aj;rw[if_pos d.1];exact c
 rw[aC d,g,aa,aa];cases m:r.eN with
 |true=>exact ae (.inl ⟨by simp,rfl⟩)
 |false=>
  simp only[cond_false];rw[ans a.sm,aa];show Ok ((aj x.ao.af i).bind _) _
  rw[g,aa];show Ok ((x.ao.af[i.toNat]?).bind _) _
  rw[c,aa];have j:bO (λb=>vt LC x i b.1 b.2) (x.aN,0)=c7 (x.aN.map (n8 i)):=by
   refine NJ (n8 i) x.aN (λl aK o t k f u=>?_) (λaK k=>?_)
   .dsimp only;unfold vt;have p:=a.2.1;rw[aC,bn,f,aa,dk,f,aa,aa,aa,aJ (n:=(l:Int)+1)];unfold n8
    by_cases e:o.akw=i
    .rw[aC e,if_pos e,aa]
    .rw[aG e,if_neg e,aa,ou f]
   .dsimp only;unfold vt;rw[aG]
  show Ok ((bO (λb=>vt LC x i b.1 b.2) (x.aN,0)).bind _) _
  rw[j,aa];refine ae (.inr ⟨rfl,a,d.1,⟨r,rfl,m⟩,?_⟩)
  unfold cY;rw[c]
  rfl
def gL{d:Type}(c b:Int)(a:List d):List d:=match a[c.toNat]?,a[b.toNat]? with |some f,c7 e=>(a.set c.toNat e).set b.toNat f |_,_=>a
def Mm{c b:Int}{o:Type}{a:List Int}{h:List Int->Option o}(n:0<=c/\c<(a.length:Int))(i:0<=b/\b<(a.length:Int)):swp c b a h=h (gL c b a):=by
 have e:a[c.toNat]?=c7 (a[c.toNat]'(by omega)):=c6 (by omega);have f:a[b.toNat]?=c7 (a[b.toNat]'(by omega)):=c6 (by omega);unfold swp gL;generalize a[c.toNat]'(by omega)=j at e;generalize a[b.toNat]'(by omega)=d at f;have m:aj a c=c7 j:=by unfold aj;rw[if_pos n.1];exact e
 have k:aj a b=c7 d:=by unfold aj;rw[if_pos i.1];exact f
 have l:b.toNat<(a.set c.toNat d).length:=by rw[dT];omega
 have g:(a.set c.toNat d)[b.toNat]?=c7 ((a.set c.toNat d)[b.toNat]):=c6 l;have p:aj (a.set c.toNat d) b=c7 ((a.set c.toNat d)[b.toNat]):=by unfold aj;rw[if_pos i.1];exact g
 rw[k,aa,f,aa,m,aa,e,aa,aa,aa,p,aa,g,aa]
def ZX{x:aB}(i a:Int)(O:∀r,r∈x.aQ->Fit r.ai)(G:x.bp.length<=3):Ok (oX LC x i a) λq=>(q.2≠0/\q.1=x)\/
 (q.2=0/\fw x/\(0<=i/\i<(x.aN.length:Int))/\(0<=a/\a<(x.aN.length:Int))/\i≠a/\(∃g b,x.aN[i.toNat]?=c7 g/\x.aN[a.toNat]?=c7 b/\g.abG=b.abG)/\q.1={x with aw:=gL i a x.aw,bp:=x.bp.map (gL i a)}):=by
 unfold oX;refine aD (LZ [i,a] O (by simp)) λP B=>?_
 refine aV (λo=>ae (.inl ⟨o,rfl⟩)) (λo=>?_)
 obtain⟨n,D⟩:=B (ej.1 o);have t:=D i (by simp);have u:=D a (by simp);refine aV (λo=>ae (.inl ⟨by simp,rfl⟩)) (λI=>?_)
 have A:x.aN[i.toNat]?=c7 (x.aN[i.toNat]'(by omega)):=c6 (by omega);have y:x.aN[a.toNat]?=c7 (x.aN[a.toNat]'(by omega)):=c6 (by omega);generalize x.aN[i.toNat]'(by omega)=g at A;generalize x.aN[a.toNat]'(by omega)=b at y;have H:aj x.aN i=c7 g:=by unfold aj;rw[if_pos t.1];exact A
 have K:aj x.aN a=c7 b:=by unfold aj;rw[if_pos u.1];exact y
 rw[H,aa,K,aa];refine aV (λo=>ae (.inl ⟨by simp,rfl⟩)) (λN=>?_)
 have J:=ej.1 N;have E:=n.2.2.1;have F:∀c,c∈x.bp->c.length=x.aN.length:=λc s=>by
  obtain⟨k,M,rfl⟩:=e5.1 s;obtain⟨_,_,_,P,_,_,_,v,_,_,_,B,_⟩:=n.2.2.2.2.2.2.2.2.1 k (by have:=n.2.2.2.2.2.2.2.1;omega);rw[c6 M] at v;injection v with v
  rw[v];exact B
 have l:=n.sm;have h:∀z:aB,z={x with aw:=gL i a x.aw,bp:=x.bp.map (gL i a)}->Ok (c7 (z,(0:Int))) λq=>(q.2≠0/\q.1=x)\/(q.2=0/\fw x/\(0<=i/\i<(x.aN.length:Int))/\(0<=a/\a<(x.aN.length:Int))/\i≠a/\(∃g b,x.aN[i.toNat]?=c7 g/\x.aN[a.toNat]?=c7 b/\g.abG=b.abG)/\q.1={x with aw:=gL i a x.aw,bp:=x.bp.map (gL i a)}):=
  λz L=>ae (.inr ⟨rfl,n,t,u,I,⟨g,b,A,y,J⟩,L⟩)
 have e:∀{w:Type} {k:List Int->Option w} (c:List Int),c∈x.bp->swp i a c k=k (gL i a c):=λc s=>Mm (by rw[F c s];exact t) (by rw[F c s];exact u)
 have p:∀{w:Type} {k:List Int->Option w},swp i a x.aw k=k (gL i a x.aw):=Mm (by rw[E];exact t) (by rw[E];exact u);have f:=l.mr
 match d:x.bp with
 |[]=>
  rw[d] at h;dsimp only;unfold we;rw[d];dsimp only;rw[oc l,aa];dsimp only;rw[p];exact h _ rfl
 |[j]=>
  rw[d] at h e f;dsimp only;unfold uR;rw[d];dsimp only;rw[oc l,bV (f j (by simp)),aa,aa];dsimp only;rw[p,e j (by simp)];exact h _ rfl
 |[j,m]=>
  rw[d] at h e f;dsimp only;unfold pO;rw[d];dsimp only;rw[oc l,bV (f j (by simp)),aa,bV (f m (by simp)),aa,aa];dsimp only;rw[p,e j (by simp),e m (by simp)];exact h _ rfl
 |[j,m,C]=>
  rw[d] at h e f;dsimp only;unfold nM;rw[d];dsimp only;rw[oc l,bV (f j (by simp)),aa,bV (f m (by simp)),aa,bV (f C (by simp)),aa,aa];dsimp only;rw[p,e j (by simp),e m (by simp),e C (by simp)];exact h _ rfl
 |_::_::_::_::_=>rw[d] at G;simp at G
def Bb{l:List Int}{x:Int}(c:Fit l):to LC l x=c7 (gg (λa=>c5 (x=a)) l):=by
 unfold to;exact fF (l:=l) (P:=λa=>c7 (c5 (x=a))) (p:=λa=>c5 (x=a)) (f:=λb=>Nf LC l x b) c (λ_ _=>rfl) (λb=>rfl)
def contains_eq{c:List Int}{a:Int}(d:Fit c):im LC c a=c7 (c5 (a∈c)):=by
 unfold im;rw[Bb d,aa,gm]
 congr 1
 rw[ma,m2,decide_eq_true_iff]
 constructor
 .rintro⟨f,e,b⟩;rw[of_decide_eq_true b];exact e
 .exact λb=>⟨a,b,decide_eq_true rfl⟩
def xj(d:ak)(a:List aS)(b e:List Int)(c:Int):aB:=⟨d,c,b.map λp=>⟨p,-1,0⟩,e,a,a.map λ_=>-1,a.map λ_=>-1,a.map λ_=>ec b.length 0⟩
def start_eq{d:ak}{b:List aS}{a e:List Int}{g:Int}(m:uG d b)(H:e.length=a.length)(I:1<=a.length/\a.length<=12)(y:∀p,p∈a->0<=p/\p<(d.ai.length:Int))(A:lz e)(D:0<=g/\g<=2147483648):
 Ef LC d b a e g=c7 (xj d b a e g,0):=by
 have o:=m.1;have q:=m.2.1;have u:∀r,r∈b->Sm r.ai:=λr s=>by
  have:=(m.2.2 r s).2.1.len (by omega);have:=o.1;exact cX (n:=64) (by omega) (by decide)
 unfold Ef;rw[Pm _ _ (λr s=>hz (u r s) (by decide)),aa,cF,aa,lA,ew rfl,fh rfl,aa,aG (by
  rintro(j |j |j)
  .exact j m
  .omega
  .omega)]
 have G:Cg LC a d=c7 (a.any λp=>!c5 (0<=p/\p<=(d.ai.length:Int) -1)):=by
  unfold Cg KC;have:=fF (l:=a) (P:=λv=>Ci LC v d) (p:=λp=>!c5 (0<=p/\p<=(d.ai.length:Int) -1)) (f:=λh=>KM LC a d h) (by omega) (λv J=>by
   unfold Ci;have:=o.1;rw[aJ,cF,aa]) (λh=>rfl)
  rw[show(LC.loop (λh=>KM LC a d h) 0).bind _=_ from this,aa,gm]
 rw[G,aa,HA,aG (λj=>j λp C=>by have:=y p C;omega),KN (cX (n:=12) (by omega) (by decide)),aa,decide_eq_true A,cF,aa,decide_eq_true D];simp only[fe,cond_false];have E:=jm (f:=λh=>tX LC a (L6 h) (T0 h)) a (λc i=>u8 (aB.mk d g (c.map λp=>⟨p,-1,0⟩) e b [] [] []) i) (λc=>u3 (aB.mk d g (c.map λp=>⟨p,-1,0⟩) e b [] [] [])) (λc r F j=>by
  show tX LC a (aB.mk d g (c.map λp=>⟨p,-1,0⟩) e b [] [] []) (c.length:Int)=_
  unfold tX;have k:=iy j;rw[aC k,jg j,aa,dm (by decide) (by rw[eE];omega),aa,aJ,hK]
  rfl) (by
  show tX LC a (aB.mk d g (a.map λp=>⟨p,-1,0⟩) e b [] [] []) (a.length:Int)=_
  unfold tX;rw[aG])
 refine(dL E).trans ?_
 have B:=jm (f:=λh=>sH LC b a (CU h) (Eg h)) b (λc i=>u1 (aB.mk d g (a.map λp=>⟨p,-1,0⟩) e b (c.map λ_=>-1) (c.map λ_=>-1) (c.map λ_=>ec a.length 0)) i) (λc=>u3 (aB.mk d g (a.map λp=>⟨p,-1,0⟩) e b (c.map λ_=>-1) (c.map λ_=>-1) (c.map λ_=>ec a.length 0))) (λc r F j=>by
  show sH LC b a (aB.mk d g (a.map λp=>⟨p,-1,0⟩) e b (c.map λ_=>-1) (c.map λ_=>-1) (c.map λ_=>ec a.length 0)) (c.length:Int)=_
  unfold sH;have k:=iy j;have t:c.length<=2000000:=by omega
  rw[aC k];dsimp only;rw[dm (by decide) (by rw[eE];exact t),nS (by omega) (by omega)];simp only[aa];rw[dm (by decide) (by rw[eE];exact t),aa,aJ,hK,hK]
  rfl) (by
  show sH LC b a (aB.mk d g (a.map λp=>⟨p,-1,0⟩) e b (b.map λ_=>-1) (b.map λ_=>-1) (b.map λ_=>ec a.length 0)) (b.length:Int)=_
  unfold sH;rw[aG])
 refine(congrArg (λz=>qq z _) (dL B)).trans ?_
 show((yS LC (xj d b a e g)).bind _)=_
 rw[agL (x:=xj d b a e g) ⟨cX o.1 (by decide),cX o.2.1 (by decide),cX (n:=12) (by show(a.map _).length<=12;rw[eE];omega) (by decide),cX (n:=12) (by show e.length<=12;omega) (by decide),cX q (by decide),u,cX (n:=32) (by show(b.map _).length<=32;rw[eE];exact q) (by decide),cX (n:=32) (by show(b.map _).length<=32;rw[eE];exact q) (by decide),
  cX (n:=32) (by show(b.map _).length<=32;rw[eE];exact q) (by decide),λl k=>by
   have w:l∈b.map λ_=>ec a.length (0:Int):=k
   obtain⟨r,_,rfl⟩:=j9.1 w;exact cX (n:=12) (by rw[e6];omega) (by decide)⟩]
 rfl
structure Seen (x:aB) (rd:aS) (row row':List Int) (yp:List Int):Prop where
 len:row'.length=row.length
 tl:yp.length<=x.aN.length
 Hg:∀(i:Nat) (w:bC) (t:Int),x.aN[i]?=c7 w->x.aw[i]?=c7 t->∃v v',row[i]?=c7 v/\row'[i]?=c7 v'/\((v'=0/\(w.abG∈rd.ai->t∈yp))\/(v'=v+1/\v'<=rd.dY))
 tag:∀t,t∈yp->∃(i:Nat) (w:bC),x.aN[i]?=c7 w/\x.aw[i]?=c7 t/\w.abG∈rd.ai
structure Oq (x:aB) (rd:aS) (n:Nat) (row row':List Int) (yp:List Int):Prop where
 len:row'.length=row.length
 tl:yp.length<=n
 bG:∀i,n<=i->row'[i]?=row[i]?
 Hg:∀(i:Nat) (w:bC) (t:Int),i<n->x.aN[i]?=c7 w->x.aw[i]?=c7 t->∃v v',row[i]?=c7 v/\row'[i]?=c7 v'/\((v'=0/\(w.abG∈rd.ai->t∈yp))\/(v'=v+1/\v'<=rd.dY))
 tag:∀t,t∈yp->∃(i:Nat) (w:bC),x.aN[i]?=c7 w/\x.aw[i]?=c7 t/\w.abG∈rd.ai
abbrev LkS:Type:=List Int×Int×Int×Int×List Int×Int
def ZP{c:aB}(F:fw c){g:aS}(Q:Fit g.ai)(w:Int){row:List Int}(ad:row.length=c.aN.length)(L:∀v,v∈row->0<=v/\v<=10)(x b C:Int):
 Ok (bO (λh:LkS=>EV LC c w g h.1 h.2.1 h.2.2.1 h.2.2.2.1 h.2.2.2.2.1 h.2.2.2.2.2) (row,x,b,C,([]:List Int),0)) λk=>match k with
  | .inl k=>k=(c.ao.ai,c.ao.af,c.aa0,c.aN,c.aw,c.aQ,c.cn,c.cf,c.bp,0,0,0,([]:List Int),43)
  | .inr k=>k.2.1=x/\k.2.2.1=b/\k.2.2.2.1=C/\Seen c g row k.1 k.2.2.2.2:=by
 have ac:=F.2.1;have Z:=F.2.2.1;refine di c.aN.length (λi h=>∃j f,h=(j,x,b,C,f,(i:Int))/\Oq c g i row j f) _ (λi h S y=>?_) (λh y=>?_) _ ⟨row,[],rfl,⟨rfl,by simp,λ_ _=>rfl,λi l o a=>by omega,λo a=>by cases a⟩⟩
 .obtain⟨j,f,rfl,e⟩:=y;have m:c.aN[i]?=c7 c.aN[i]:=c6 S;have p:c.aw[i]?=c7 (c.aw[i]'(by omega)):=c6 (by omega);have B:row[i]?=c7 (row[i]'(by omega)):=c6 (by omega);generalize c.aN[i]=l at m;generalize c.aw[i]'(by omega)=o at p;have J:=L _ (dd (show i<row.length by omega));generalize row[i]'(by omega)=v at B J;have E:j[i]?=c7 v:=(e.bG i (h8 _)).trans B;have D:i<j.length:=by rw[e.len];omega
  dsimp only;unfold EV;rw[aC,bn,m,aa,contains_eq Q,aa,AD (by omega),aa,bn,E,aa];have next:∀(z:Int) (q:List Int),((z=0/\(l.abG∈g.ai->o∈q))\/(z=v+1/\z<=g.dY))->(∀d,d∈f->d∈q)->q.length<=f.length+1->(∀d,d∈q->d∈f\/(d=o/\l.abG∈g.ai))->Oq c g (i+1) row (j.set i z) q:=by
   intro z q N V ab M;refine⟨by rw[dT,e.len],by have:=e.tl;omega,λu W=>?_,λu X I W r t=>?_,λd O=>?_⟩
   .rw[h9 (by omega)];exact e.bG u (by omega)
   .by_cases G:u=i
    .subst G;rw[m] at r;rw[p] at t;injection r with r
     injection t with t
     subst r t;exact⟨v,z,B,gv D,N⟩
    .obtain⟨K,P,H,U,s⟩:=e.Hg u X I (by omega) r t;refine⟨K,P,H,by rw[h9 (λa=>G a.symm)];exact U,?_⟩
     rcases s with⟨s,Y⟩ |s
     .exact .inl ⟨s,λa=>V _ (Y a)⟩
     .exact .inr s
   .rcases M d O with a |⟨rfl,a⟩
    .exact e.tag d a
    .exact⟨i,l,m,p,a⟩
  have T:(bif c5 (l.abG∈g.ai) then c7 (c5 (bits .and .i64 (w.fdiv (2^ (min (i:Int).toNat IntKind.i64.bits))) 1=1)) else c7 false)=c7 (c5 (l.abG∈g.ai/\bits .and .i64 (w.fdiv (2^ (min (i:Int).toNat IntKind.i64.bits))) 1=1)):=fm rfl;rw[T,aa,dk,E,aJ (n:=(i:Int)+1)];simp only[aa];rw[aJ (n:=v+1)];refine aV (λR=>?_) (λR=>?_)
  .rw[gv D,aa];refine aV (λa=>ae rfl) (λa=>ae ⟨j.set i (v+1),f,rfl,next _ _ (.inr ⟨rfl,by omega⟩) (λ_ a=>a) (by omega) (λd a=>.inl a)⟩)
  .refine aV (λA=>?_) (λA=>ae ⟨j.set i 0,f,rfl,next _ _ (.inl ⟨rfl,λa=>absurd a A⟩) (λ_ a=>a) (by omega) (λd a=>.inl a)⟩)
   have:=e.tl;rw[bn,p,aa,dm (by decide) (by omega),aa];refine ae ⟨j.set i 0,f++[o],rfl,next _ _ (.inl ⟨rfl,λ_=>by simp⟩) (λd a=>by simp[a]) (by simp) (λd a=>?_)⟩
   rcases e4.1 a with a |a
   .exact .inl a
   .exact .inr ⟨by simpa using a,A⟩
 .obtain⟨j,f,rfl,e⟩:=y;dsimp only;unfold EV;rw[aG];exact ae ⟨rfl,rfl,rfl,e.len,e.tl,λi l o m p=>e.Hg i l o (dt.1 m).1 m p,e.tag⟩
structure cf (x:aB) (k:Nat) (off:Int) (rd:aS) (x':aB) (r:aT):Prop where
 ok:fw x
 eZ:x.aQ[k]?=c7 rd
 QX: -rd.cR<=off/\off<=rd.cR
 aqK:0<=x.aa0+off/\x.aa0+off<=2147483648
 ex:∃row row' yp a l,x.bp[k]?=c7 row/\x.cn[k]?=c7 a/\x.cf[k]?=c7 l/\Seen x rd row row' yp/\r.aj6=(a+(if 0<=l/\rd.dX<x.aa0 -l then 2 else 1)).tmod 65536/\r.agX=k/\r.aa0=x.aa0+off/\r.aw=dQ yp/\
  x'={x with cn:=x.cn.set k r.aj6,cf:=x.cf.set k x.aa0,bp:=x.bp.set k row'}
def ua{a:aB}(f:fw a){g:Nat}{p e:Int}{c:aS}(h:a.aQ[g]?=c7 c)(G: -c.cR<=e/\e<=c.cR)(A:0<=a.aa0+e/\a.aa0+e<=2147483648){row:List Int}(w:a.bp[g]?=c7 row)(t:List Int->List (List Int))(D:∀r,t r=a.bp.set g r):
 Ok (qw LC a (g:Int) p e c a.aw a.cn a.cf row t (a.ao.ai,a.ao.af,a.aa0,a.aN,a.aQ)) λq=>(q.2.2≠0/\q.1=a)\/(q.2.2=0/\cf a g e c q.1 q.2.1):=by
 have C:=(dt.1 h).1;obtain⟨_,s,b,O,i,o,m,k,K,P,_,J,y⟩:=f.2.2.2.2.2.2.2.2.1 g C;rw[h] at i;injection i with i
 subst i;rw[w] at k;injection k with k
 subst k;have L:=f.2.2.2.2.1;have B:=f.1.2.2 c (fC h);unfold qw;rw[bn,m,aa,aa,aJ (n:=a.aa0 -b)];have z:(bif c5 (0<=b) then c7 (c5 (c.dX<a.aa0 -b)) else c7 false)=c7 (c5 (0<=b/\c.dX<a.aa0 -b)):=fm rfl;rw[z,aa];have E:(bif c5 (0<=b/\c.dX<a.aa0 -b) then c7 (2:Int) else c7 1)=c7 (if 0<=b/\c.dX<a.aa0 -b then 2 else 1):=by
  by_cases j:0<=b/\c.dX<a.aa0 -b
  .rw[aC j,if_pos j]
  .rw[aG j,if_neg j]
 rw[E,aa,bn,o,aa];have M:(1:Int)<=(if 0<=b/\c.dX<a.aa0 -b then 2 else 1)/\(if 0<=b/\c.dX<a.aa0 -b then(2:Int) else 1)<=2:=by split <;> omega
 rw[aJ (n:=s+_),D7 (by omega),aa,aa,dk,o,aa,aa,m,aa,aJ (n:=a.aa0+e)];refine aD (ZP f (by have:=f.sm.rp c (fC h);exact hz this (by decide)) p J (λv I=>by have:=y v I;have:=B.2.2.2.1;omega) _ _ _) λd l=>?_
 cases d with
 |inl d=>
  dsimp only at l;subst l;exact ae (.inl ⟨by simp,rfl⟩)
 |inr d=>
  obtain⟨F,x,H,u⟩:=l;dsimp only[ei];have N:=f.2.1;have:=u.tl;rw[show rC d.2.2.2.2=rl LC d.2.2.2.2 from rfl,zF (cX (n:=12) (by omega) (by decide)),aa];refine ae (.inr ⟨rfl,f,h,G,A,row,d.1,d.2.2.2.2,s,b,w,o,m,u,x,F,H,rfl,?_⟩)
  rw[D,x]
def look_ok{x:aB}(f y h:Int)(G:∀r,r∈x.aQ->Fit r.ai)(B:x.bp.length<=3)(M:0<=f)(K:f<max 1 (x.aQ.length:Int))(t:x.bp.length=x.aQ.length):
 Ok (jO LC x f y h) λq=>(q.2.2≠0/\q.1=x)\/(q.2.2=0/\∃(n:Nat) (d:aS),f=(n:Int)/\cf x n h d q.1 q.2.1):=by
 have head:∀(u:aS->Option (aB×aT×Int)),(∀(n:Nat) (d:aS),f=(n:Int)->fw x->x.aQ[n]?=c7 d->(-d.cR<=h/\h<=d.cR)->(0<=x.aa0+h/\x.aa0+h<=2147483648)->Ok (u d) λq=>(q.2.2≠0/\q.1=x)\/(q.2.2=0/\cf x n h d q.1 q.2.1))->
  Ok (po LC x f y h u) λq=>(q.2.2≠0/\q.1=x)\/(q.2.2=0/\∃(n:Nat) (d:aS),f=(n:Int)/\cf x n h d q.1 q.2.1):=by
  intro u E;unfold po;rw[xf x G,aa,de];refine aV (λc=>?_) (λc=>ae (.inl ⟨by simp,rfl⟩))
  rw[aJ,cF,aa,de];refine aV (λH=>?_) (λc=>ae (.inl ⟨by simp,rfl⟩))
  have v:f.toNat<x.aQ.length:=by omega
  have g:x.aQ[f.toNat]?=c7 x.aQ[f.toNat]:=c6 v;have z:aj x.aQ f=c7 x.aQ[f.toNat]:=qC H.1 (by omega);have w:=c.1.2.2 _ (dd v);generalize x.aQ[f.toNat]=d at g z w;have L:=c.2.2.2.2.1;have J:=w.2.2.2.2;rw[z,aa,aJ (n:=0 -d.cR),cF,aa]
  by_cases A:0 -d.cR<=h/\h<=d.cR
  rotate_left
  .rw[decide_eq_false A];exact ae (.inl ⟨by simp,rfl⟩)
  rw[decide_eq_true A,aJ (n:=x.aa0+h),cF];simp only[aa,fe,cond_false,de];refine aV (λD=>?_) (λ_=>ae (.inl ⟨by simp,rfl⟩))
  refine alt (E f.toNat d (by omega) c g (by omega) D) λq p=>?_
  rcases p with p |⟨h0,p⟩
  .exact .inl p
  .exact .inr ⟨h0,f.toNat,d,by omega,p⟩
 have F:∀{I:Prop},x.aQ.length=0->∀(n:Nat) (d:aS),x.aQ[n]?=c7 d->I:=λN n d g=>by
  have:=(dt.1 g).1;omega
 unfold jO
 match a:x.bp with
 |[]=>
  dsimp only;have h0:x.aQ.length=0:=by rw[<-t,a];rfl
  rw[aC];exact head _ λn d _ _ g=>F h0 n d g
 |[j]=>
  dsimp only;have h0:x.aQ.length=1:=by rw[<-t,a];rfl
  rw[aC (show f=0 by omega)];refine head _ λn d k c g i b=>?_
  have l:n=0:=by omega
  subst l k;have e:=c.sm.mr;rw[a] at e;unfold uR;rw[a];dsimp only;rw[oc c.sm,bV (e j (by simp)),aa,aa];exact ua c g i b (row:=j) (by rw[a];rfl) (λr=>[r]) (λr=>by rw[a];rfl)
 |[j,m]=>
  dsimp only;have h0:x.aQ.length=2:=by rw[<-t,a];rfl
  by_cases o:f=0
  .rw[aC o];refine head _ λn d k c g i b=>?_
   have l:n=0:=by omega
   subst l k;have e:=c.sm.mr;rw[a] at e;unfold pO;rw[a];dsimp only;rw[oc c.sm,bV (e j (by simp)),aa,bV (e m (by simp)),aa,aa];exact ua c g i b (row:=j) (by rw[a];rfl) _ (λr=>by rw[a];rfl)
  .rw[aG o,aC (show f=1 by omega)];refine head _ λn d k c g i b=>?_
   have l:n=1:=by omega
   subst l k;have e:=c.sm.mr;rw[a] at e;unfold pO;rw[a];dsimp only;rw[oc c.sm,bV (e j (by simp)),aa,bV (e m (by simp)),aa,aa];exact ua c g i b (row:=m) (by rw[a];rfl) _ (λr=>by rw[a];rfl)
 |[j,m,s]=>
  dsimp only;have h0:x.aQ.length=3:=by rw[<-t,a];rfl
  by_cases o:f=0
  .rw[aC o];refine head _ λn d k c g i b=>?_
   have l:n=0:=by omega
   subst l k;have e:=c.sm.mr;rw[a] at e;unfold nM;rw[a];dsimp only;rw[oc c.sm,bV (e j (by simp)),aa,bV (e m (by simp)),aa,bV (e s (by simp)),aa,aa];exact ua c g i b (row:=j) (by rw[a];rfl) _ (λr=>by rw[a];rfl)
  .rw[aG o]
   by_cases C:f=1
   .rw[aC C];refine head _ λn d k c g i b=>?_
    have l:n=1:=by omega
    subst l k;have e:=c.sm.mr;rw[a] at e;unfold nM;rw[a];dsimp only;rw[oc c.sm,bV (e j (by simp)),aa,bV (e m (by simp)),aa,bV (e s (by simp)),aa,aa];exact ua c g i b (row:=m) (by rw[a];rfl) _ (λr=>by rw[a];rfl)
   .rw[aG C,aC (show f=2 by omega)];refine head _ λn d k c g i b=>?_
    have l:n=2:=by omega
    subst l k;have e:=c.sm.mr;rw[a] at e;unfold nM;rw[a];dsimp only;rw[oc c.sm,bV (e j (by simp)),aa,bV (e m (by simp)),aa,bV (e s (by simp)),aa,aa];exact ua c g i b (row:=s) (by rw[a];rfl) _ (λr=>by rw[a];rfl)
 |_::_::_::_::_=>rw[a] at B;simp at B
end Go.X.T
namespace Go.X.T
open Go Go.Aml Go.Top
def fn(a:List Int)(p:Int):Int:=a.getD p.toNat 0
def fD(a:Int):Prop:=(0<=a/\a<=2147483648)\/a=1099511627776
instance (a:Int):Decidable (fD a):=by unfold fD;infer_instance
def Q4{b:List Int}{p a:Int}(c:b[p.toNat]?=c7 a):fn b p=a:=pu c
def iD{l:List Int}{p:Int}(h0:0<=p)(a:p<(l.length:Int)):l[p.toNat]?=c7 (fn l p):=by
 rw[c6 (by omega),fn,pu (c6 (by omega))]
def gH{l:List Int}{p:Int}(h0:0<=p)(a:p<(l.length:Int)):aj l p=c7 (fn l p):=by
 unfold aj;rw[if_pos h0];exact iD h0 a
def oR{l:List Int}{p:Int}(h0:0<=p)(a:p<(l.length:Int)):fn l p∈l:=fC (iD h0 a)
def wy{l:List Int}{p q x:Int}(h0:0<=p)(b:p<(l.length:Int))(c:0<=q):fn (l.set p.toNat x) q=if q=p then x else fn l q:=by
 unfold fn;rw[ee,hI]
 by_cases a:q=p
 .subst a;rw[if_pos rfl,if_pos rfl,if_pos (by omega)];rfl
 .rw[if_neg a,if_neg (by omega),ee]
def rL(m:ak):vG:=λp q a=>∃(i:Nat) (r:aZ) (b:Bool),m.af[i]?=c7 r/\wT m (i:Int) b 6 9 12=a/\0<=a/\p=(if b then r.To else r.an)/\q=(if b then r.an else r.To)
def x8(S:Int->Bool)(b:List Int×Bool)(q a t:Int):List Int×Bool:=if max a t<=2147483648/\max a t<fn b.1 q/\S q=true then(b.1.set q.toNat (max a t),true) else b
def gn(m:ak)(S:Int->Bool)(t:Int)(i:Nat)(r:aZ)(b:Bool)(a:List Int×Bool):List Int×Bool:=
 if 0<=wT m (i:Int) b 6 9 12/\fn a.1 (if b then r.To else r.an)<1099511627776 then x8 S a (if b then r.an else r.To) (fn a.1 (if b then r.To else r.an)+wT m (i:Int) b 6 9 12) t else a
def e9(m:ak)(S:Int->Bool)(t:Int):Nat->Nat->List Int×Bool->List Int×Bool
 |0,_,a=>a
 |b+1,i,a=>e9 m S t b (i+1) (match m.af[i]? with |some r=>gn m S t i r true (gn m S t i r false a) |none=>a)
structure LI (m:ak) (S:Int->Bool) (t:Int) (g aK:List Int):Prop where
 len:aK.length=g.length
 le:∀p,0<=p->p<(g.length:Int)->fn aK p<=fn g p
 sh:∀x,x∈aK->fD x
 low:∀h:Int->Int,pG (rL m) t (λq=>S q=true) h->(∀p,0<=p->p<(g.length:Int)->h p<=fn g p)->∀p,0<=p->p<(g.length:Int)->h p<=fn aK p
def jJ:List Int->Int
 |[]=>0
 |a::b=>a+jJ b
def Gn:∀{l:List Int},(∀a,a∈l->fD a)->0<=jJ l
 |[],_=>ey _
 |a::l,b=>by
  have e:=b a (by simp);have f:=Gn (l:=l) λc d=>b c (by simp[d])
  unfold jJ;unfold fD at e;omega
def Mk:∀{b:List Int} {i:Nat} {c a:Int},b[i]?=c7 a->jJ (b.set i c)=jJ b -a+c
 |[],i,c,a,d=>by simp at d
 |e::b,0,c,a,d=>by
  have:e=a:=by simpa using d
  subst this;rw[hX];unfold jJ;omega
 |e::b,i+1,c,a,d=>by
  have f:b[i]?=c7 a:=by simpa using d
  rw[l2];unfold jJ;rw[Mk f];omega
section
variable {m:ak}{S:Int->Bool}{t:Int}{g:List Int}
def Cn(a:cP m){i:Nat}{r:aZ}(c:m.af[i]?=c7 r)(b:Bool):(0<=(if b then r.To else r.an)/\(if b then r.To else r.an)<(m.ai.length:Int))/\(0<=(if b then r.an else r.To)/\(if b then r.an else r.To)<(m.ai.length:Int)):=by
 have d:=(a.2.2.2 r (fC c)).1;cases b
 .simp only[hY,if_false];omega
 .simp only[if_true];omega
def om(M:cP m)(P:0<=t)(Q:g.length=m.ai.length){i:Nat}{r:aZ}(B:m.af[i]?=c7 r)(b:Bool){a:List Int×Bool}(c:LI m S t g a.1):
 LI m S t g (gn m S t i r b a).1/\((gn m S t i r b a=a/\pG (λp q k=>p=(if b then r.To else r.an)/\q=(if b then r.an else r.To)/\k=wT m (i:Int) b 6 9 12/\0<=k) t (λq=>S q=true) (fn a.1))\/((gn m S t i r b a).2=true/\jJ (gn m S t i r b a).1<jJ a.1)):=by
 obtain⟨s,o⟩:=Cn M B b;have T:=rF m (i:Int) b (u:=6) (d:=9) (l:=12) (by decide);unfold gn x8;generalize N:(if b then r.To else r.an)=e at s⊢;generalize H:(if b then r.an else r.To)=n at o⊢;have L:=c.len
 by_cases j:0<=wT m (i:Int) b 6 9 12/\fn a.1 e<1099511627776
 .rw[if_pos j]
  by_cases h:max (fn a.1 e+wT m (i:Int) b 6 9 12) t<=2147483648/\max (fn a.1 e+wT m (i:Int) b 6 9 12) t<fn a.1 n/\S n=true
  .rw[if_pos h];have D:=λq K=>wy (l:=a.1) (p:=n) (q:=q) (x:=max (fn a.1 e+wT m (i:Int) b 6 9 12) t) o.1 (by omega) K
   have O:=c.sh _ (oR (l:=a.1) s.1 (by omega));refine⟨⟨by rw[dT];exact L,λp f w=>?_,λx v=>?_,λJ A I p f w=>?_⟩,.inr ⟨rfl,?_⟩⟩
   .rw[D p f];have:=c.le p f w
    split
    .rename_i y;subst y;omega
    .exact this
   .rcases ev v with v |rfl
    .exact c.sh x v
    .left;omega
   .rw[D p f];have C:=c.low J A I
    split
    .rename_i y;subst y;have R:=C e s.1 (by omega);have:=A e p _ ⟨i,r,b,B,rfl,j.1,N.symm,H.symm⟩ h.2.2 (by unfold T5;omega) (by unfold SM;omega);omega
    .exact C p f w
   .rw[Mk (iD o.1 (by omega))];omega
  .rw[if_neg h];refine⟨c,.inl ⟨rfl,?_⟩⟩
   rintro p q k ⟨rfl,rfl,rfl,h0⟩ F E z;refine Int.not_lt.1 λG=>h ⟨z,G,F⟩
 .rw[if_neg j];refine⟨c,.inl ⟨rfl,?_⟩⟩
  rintro p q k ⟨rfl,rfl,rfl,h0⟩ F E z;exact absurd ⟨h0,E⟩ j
def S5{i:Nat}{r:aZ}{b:Bool}{c:List Int×Bool}(a:c.2=true):(gn m S t i r b c).2=true:=by
 unfold gn x8;generalize (if b then r.To else r.an)=e;generalize (if b then r.an else r.To)=d
 split
 .split
  .rfl
  .exact a
 .exact a
def De:∀{c i:Nat} {b:List Int×Bool},b.2=true->(e9 m S t c i b).2=true
 |0,_,_,a=>a
 |c+1,i,b,a=>by
  unfold e9;refine De ?_
  split
  .exact S5 (S5 a)
  .exact a
def PJ(x:cP m)(s:0<=t)(u:g.length=m.ai.length):∀(c i:Nat) (a:List Int×Bool),LI m S t g a.1->i+c=m.af.length->
 LI m S t g (e9 m S t c i a).1/\jJ (e9 m S t c i a).1<=jJ a.1/\((e9 m S t c i a).2=true/\jJ (e9 m S t c i a).1<jJ a.1\/e9 m S t c i a=a/\∀e,i<=e->∀r b,m.af[e]?=c7 r->pG (λp q z=>p=(if b then r.To else r.an)/\q=(if b then r.an else r.To)/\z=wT m (e:Int) b 6 9 12/\0<=z) t (λq=>S q=true) (fn a.1))
 |0,i,a,n,E=>⟨n,ey _,.inr ⟨rfl,λe F r b h=>by have:=(dt.1 h).1;omega⟩⟩
 |c+1,i,a,n,E=>by
  have A:i<m.af.length:=by omega
  unfold e9;rw[c6 A];have h:=c6 A;dsimp only;generalize m.af[i]=r at h;obtain⟨G,d⟩:=om x s u h false n;obtain⟨B,l⟩:=om x s u h true G;obtain⟨k,w,f⟩:=PJ x s u c (i+1) _ B (by omega);have D:∀o,o=gn m S t i r true (gn m S t i r false a)->o.2=true->(e9 m S t c (i+1) o).2=true:=λo _ n=>De n
  rcases l with⟨l,v⟩ |⟨l,v⟩
  .rw[l] at k w f D⊢;rcases d with⟨d,y⟩ |⟨d,y⟩
   .rw[d] at k w f v⊢;refine⟨k,w,?_⟩
    rcases f with f |⟨f,H⟩
    .exact .inl f
    .refine .inr ⟨f,λe F C b j=>?_⟩
     by_cases I:e=i
     .subst I;rw[h] at j;injection j with j
      subst j;cases b
      .exact y
      .exact v
     .exact H e (by omega) C b j
   .exact⟨k,by omega,.inl ⟨De d,by omega⟩⟩
  .have:jJ (gn m S t i r false a).1<=jJ a.1:=by
    rcases d with⟨d,_⟩ |⟨_,d⟩
    .rw[d];exact ey _
    .omega
   exact⟨k,by omega,.inl ⟨De l,by omega⟩⟩
end
structure eF (m:ak) (S:Int->Bool) (t:Int) (g out:List Int):Prop extends LI m S t g out where
 cl:pG (rL m) t (λq=>S q=true) (fn out)
def afo{aK:List Int}{d:Bool}{p q a t:Int}(h0:0<=q)(c:q<(aK.length:Int)):CB LC aK d p q a t=c7 (x8 (λ_=>true) (aK,d) q a t):=by
 unfold CB KJ;rw[gH h0 c,iD h0 c];simp only[aa];have f:(bif c5 (max a t<=2147483648) then bif c5 (max a t<fn aK q) then c7 true else c7 false else c7 false)=c7 (c5 (max a t<=2147483648/\max a t<fn aK q/\(λ_=>true) q=true)):=by
  refine fm ?_
  by_cases b:max a t<fn aK q
  .rw[aC b,decide_eq_true ⟨b,rfl⟩]
  .rw[aG b,decide_eq_false (λe=>b e.1)]
 rw[f,aa]
 by_cases b:max a t<=2147483648/\max a t<fn aK q/\(λ_:Int=>true) q=true
 .rw[aC b];exact(congrArg c7 (if_pos b)).symm
 .rw[aG b];exact(congrArg c7 (if_neg b)).symm
def afB{aK:List Int}{d:Bool}{p q a t:Int}{S:List Int}(f:Fit S)(h0:0<=q)(c:q<(aK.length:Int)):DD LC aK d p q a t S=c7 (x8 (λe=>c5 (e∈S)) (aK,d) q a t):=by
 unfold DD Gs;rw[gH h0 c,iD h0 c,contains_eq f];simp only[aa];have h:(bif c5 (max a t<=2147483648) then bif c5 (max a t<fn aK q) then c7 (c5 (q∈S)) else c7 false else c7 false)=c7 (c5 (max a t<=2147483648/\max a t<fn aK q/\c5 (q∈S)=true)):=by
  refine fm ?_
  rw[fm rfl]
  congr 1
  apply decide_eq_decide.2
  rw[decide_eq_true_iff]
 rw[h,aa]
 by_cases b:max a t<=2147483648/\max a t<fn aK q/\c5 (q∈S)=true
 .rw[aC b];exact(congrArg c7 (if_pos b)).symm
 .rw[aG b];exact(congrArg c7 (if_neg b)).symm
def akO{b:Type}{f:b->Int->Option ((b×Int)⊕b)}(g:Bool->b->b)(a:b)(h0:f a 0=c7 (.inl (g false a,1)))(c:f (g false a) 1=c7 (.inl (g true (g false a),2)))(d:∀a,f a 2=c7 (.inr a)):bO (λa:b×Int=>f a.1 a.2) (a,0)=c7 (g true (g false a)):=by
 rw[iO (f:=λa:b×Int=>f a.1 a.2) h0,iO (f:=λa:b×Int=>f a.1 a.2) c];exact fZ (d _)
section
variable {m:ak}{t:Int}
def Nb{b a:Int}(c:fD b)(d:a= -1\/(1<=a/\a<=1000099)):c3 c4 (b+a)=b+a:=by
 unfold fD at c;exact aJ
def P9(j:cP m){aK:List Int}{e:Bool}(y:aK.length=m.ai.length)(v:∀f,f∈aK->fD f){i:Nat}{r:aZ}(q:m.af[i]?=c7 r)(b:Bool)(a:Int)(k:aj [false,true] a=c7 b)(o:0<=a/\a<2):
 th LC r m (i:Int) t aK e a=c7 (.inl ((gn m (λ_=>true) t i r b (aK,e)).1,(gn m (λ_=>true) t i r b (aK,e)).2,a+1)):=by
 obtain⟨c,h⟩:=Cn j q b;have s:=rF m (i:Int) b (u:=6) (d:=9) (l:=12) (by decide);unfold th;rw[aC o.2,k,aa];have w:(bif b then c7 (r.To,r.an) else c7 (r.an,r.To))=c7 ((if b then r.To else r.an),(if b then r.an else r.To)):=by cases b <;> rfl
 rw[w,aa,Cv,aa];dsimp only;unfold gn;generalize (if b then r.To else r.an)=z at c⊢;generalize (if b then r.an else r.To)=x at h⊢;have p:=v _ (oR (l:=aK) c.1 (by omega));rw[gH (l:=aK) c.1 (by omega),iD (l:=aK) c.1 (by omega)];simp only[aa];rw[fm rfl,aa,wL,Nb p s,afo h.1 (by omega),aa,aJ (n:=a+1)]
 split <;> rfl
def MK(j:cP m){aK:List Int}{f:Bool}{S:List Int}(q:Fit S)(z:aK.length=m.ai.length)(w:∀a,a∈aK->fD a){i:Nat}{r:aZ}(s:m.af[i]?=c7 r)(b:Bool)(c:Int)(k:aj [false,true] c=c7 b)(o:0<=c/\c<2):
 tY LC r m (i:Int) t S aK f c=c7 (.inl ((gn m (λa=>c5 (a∈S)) t i r b (aK,f)).1,(gn m (λa=>c5 (a∈S)) t i r b (aK,f)).2,c+1)):=by
 obtain⟨e,h⟩:=Cn j s b;have v:=rF m (i:Int) b (u:=6) (d:=9) (l:=12) (by decide);unfold tY;rw[aC o.2,k,aa];have x:(bif b then c7 (r.To,r.an) else c7 (r.an,r.To))=c7 ((if b then r.To else r.an),(if b then r.an else r.To)):=by cases b <;> rfl
 rw[x,aa,Cv,aa];dsimp only;unfold gn;generalize (if b then r.To else r.an)=A at e⊢;generalize (if b then r.an else r.To)=y at h⊢;have p:=w _ (oR (l:=aK) e.1 (by omega));rw[gH (l:=aK) e.1 (by omega),iD (l:=aK) e.1 (by omega)];simp only[aa];rw[fm rfl,aa,wL,Nb p v,afB q h.1 (by omega),aa,aJ (n:=c+1)]
 split <;> rfl
def O4{e:Type}{f:List Int->Bool->Int->Option ((List Int×Bool×Int)⊕e)}{c d b:List Int×Bool}{r:e}(h0:f c.1 c.2 0=c7 (.inl (d.1,d.2,1)))(i:f d.1 d.2 1=c7 (.inl (b.1,b.2,2)))(h:f b.1 b.2 2=c7 (.inr r)):bO (λa:List Int×Bool×Int=>f a.1 a.2.1 a.2.2) (c.1,c.2,0)=c7 r:=by
 rw[iO (f:=λa:List Int×Bool×Int=>f a.1 a.2.1 a.2.2) h0,iO (f:=λa:List Int×Bool×Int=>f a.1 a.2.1 a.2.2) i];exact fZ h
def yj{S:Int->Bool}:∀(a i:Nat) (b:List Int×Bool),e9 m S t (a+1) i b=(match m.af[i+a]? with |some r=>gn m S t (i+a) r true (gn m S t (i+a) r false (e9 m S t a i b)) |none=>e9 m S t a i b)
 |0,i,b=>by unfold e9 e9;rfl
 |a+1,i,b=>by
  rw[e9];rw[yj a (i+1)];rw[show i+1+a=i+(a+1) by omega]
  rfl
def aeq(h:cP m)(j:0<=t){aK:List Int}(i:aK.length=m.ai.length)(w:∀n,n∈aK->fD n):yf LC aK false m t=c7 ((e9 m (λ_=>true) t m.af.length 0 (aK,false)).1,(e9 m (λ_=>true) t m.af.length 0 (aK,false)).2):=by
 unfold yf;have u:LI m (λ_=>true) t aK aK:=⟨rfl,λ_ _ _=>ey _,w,λB _ v=>v⟩;have C:=h.2.1;have p:∀a,a<=m.af.length->LI m (λ_=>true) t aK (e9 m (λ_=>true) t a 0 (aK,false)).1:=by
  intro a
  induction a with
  |zero=>intro _;exact u
  |succ a y=>
   intro o;have x:a<m.af.length:=by omega
   have e:=c6 x;rw[yj,m4,e];exact(om h j i e true (om h j i e false (y (by omega))).1).1
 have z:=nV (f:=λd:List Int×Bool×Int=>vN LC m t d.1 d.2.1 d.2.2) m.af.length (λa=>((e9 m (λ_=>true) t a 0 (aK,false)).1,(e9 m (λ_=>true) t a 0 (aK,false)).2,(a:Int))) (e9 m (λ_=>true) t m.af.length 0 (aK,false)) (λa o=>?_) (by
  dsimp only;unfold vN;rw[aG])
 .rw[show LC.loop (λd:List Int×Bool×Int=>vN LC m t d.1 d.2.1 d.2.2) (aK,false,0)=_ from z,aa]
 .dsimp only;have e:=c6 o;have l:=p a (by omega);have k:=(om h j i e false l).1;have A:=(om h j i e true k).1;unfold vN;rw[aC,bn,e,aa];have s:=O4 (f:=λq b c=>th LC m.af[a] m (a:Int) t q b c) (c:=e9 m (λ_=>true) t a 0 (aK,false)) (r:=gn m (λ_=>true) t a m.af[a] true (gn m (λ_=>true) t a m.af[a] false (e9 m (λ_=>true) t a 0 (aK,false))))
   (P9 h (l.len.trans i) l.sh e false 0 rfl (by decide)) (P9 h (k.len.trans i) k.sh e true 1 rfl (by decide)) (by unfold th;rfl)
  rw[show LC.loop (λd:List Int×Bool×Int=>th LC m.af[a] m (a:Int) t d.1 d.2.1 d.2.2) _=_ from s,aa,aJ,yj,m4,e]
  rfl
def UZ(i:cP m)(k:0<=t){S:List Int}(p:Fit S){aK:List Int}(j:aK.length=m.ai.length)(x:∀a,a∈aK->fD a):Bj LC aK false m t S=c7 ((e9 m (λa=>c5 (a∈S)) t m.af.length 0 (aK,false)).1,(e9 m (λa=>c5 (a∈S)) t m.af.length 0 (aK,false)).2):=by
 unfold Bj;have v:LI m (λa=>c5 (a∈S)) t aK aK:=⟨rfl,λ_ _ _=>ey _,x,λC _ w=>w⟩;have D:=i.2.1;have q:∀d,d<=m.af.length->LI m (λa=>c5 (a∈S)) t aK (e9 m (λa=>c5 (a∈S)) t d 0 (aK,false)).1:=by
  intro d
  induction d with
  |zero=>intro _;exact v
  |succ d z=>
   intro o;have y:d<m.af.length:=by omega
   have h:=c6 y;rw[yj,m4,h];exact(om i k j h true (om i k j h false (z (by omega))).1).1
 have A:=nV (f:=λe:List Int×Bool×Int=>xS LC m t S e.1 e.2.1 e.2.2) m.af.length (λd=>((e9 m (λa=>c5 (a∈S)) t d 0 (aK,false)).1,(e9 m (λa=>c5 (a∈S)) t d 0 (aK,false)).2,(d:Int))) (e9 m (λa=>c5 (a∈S)) t m.af.length 0 (aK,false)) (λd o=>?_) (by
  dsimp only;unfold xS;rw[aG])
 .rw[show LC.loop (λe:List Int×Bool×Int=>xS LC m t S e.1 e.2.1 e.2.2) (aK,false,0)=_ from A,aa]
 .dsimp only;have h:=c6 o;have n:=q d (by omega);have l:=(om i k j h false n).1;have B:=(om i k j h true l).1;unfold xS;rw[aC,bn,h,aa];have u:=O4 (f:=λs b c=>tY LC m.af[d] m (d:Int) t S s b c) (c:=e9 m (λa=>c5 (a∈S)) t d 0 (aK,false)) (r:=gn m (λa=>c5 (a∈S)) t d m.af[d] true (gn m (λa=>c5 (a∈S)) t d m.af[d] false (e9 m (λa=>c5 (a∈S)) t d 0 (aK,false))))
   (MK i p (n.len.trans j) n.sh h false 0 rfl (by decide)) (MK i p (l.len.trans j) l.sh h true 1 rfl (by decide)) (by unfold tY;rfl)
  rw[show LC.loop (λe:List Int×Bool×Int=>tY LC m.af[d] m (d:Int) t S e.1 e.2.1 e.2.2) _=_ from u,aa,aJ,yj,m4,h]
  rfl
def TT(C:cP m)(s:0<=t){S:Int->Bool}{g:List Int}(k:g.length=m.ai.length)(B:∀e,e∈g->fD e){f:List Int×Bool->Option ((List Int×Bool)⊕List Int)}
 (v:∀aK,aK.length=m.ai.length->(∀e,e∈aK->fD e)->f (aK,true)=c7 (.inl (e9 m S t m.af.length 0 (aK,false)))) (n:∀aK,f (aK,false)=c7 (.inr aK)):Ok (bO f (g,true)) (eF m S t g):=by
 refine oa (λc=>LI m S t g c.1/\(c.2=false->pG (rL m) t (λq=>S q=true) (fn c.1))) (λc=>2*(jJ c.1).toNat+(if c.2 then 1 else 0)) _ (λc a=>?_) _ ⟨⟨rfl,λ_ _ _=>ey _,B,λh _ z=>z⟩,λh=>by cases h⟩
 obtain⟨aK,F⟩:=c;obtain⟨a,E⟩:=a;cases F with
 |false=>exact ok_eq (n aK) ⟨a,E rfl⟩
 |true=>
  refine ok_eq (v aK (a.len.trans k) a.sh) ?_
  obtain⟨l,J,d⟩:=PJ C s k m.af.length 0 (aK,false) a (by omega);have H:=Gn a.sh;have I:=Gn l.sh;rcases d with⟨d,j⟩ |⟨d,j⟩
  .refine⟨⟨l,λh=>by rw[d] at h;cases h⟩,?_⟩
   dsimp only at j⊢;rw[d];simp only[if_true];omega
  .rw[d];refine⟨⟨a,λ_=>?_⟩,by simp⟩
   rintro p q y ⟨i,r,b,A,w,h0,x,u⟩ D G o;exact j i (p0 _) r b A p q y ⟨x,u,w.symm,h0⟩ D G o
def KU(a:cP m)(d:0<=t){g:List Int}(j:g.length=m.ai.length)(i:∀b,b∈g->fD b):Ok (ze LC m g t) (eF m (λ_=>true) t g):=by
 unfold ze;have:=a.1;rw[bV (cX (n:=64) (by omega) (by decide)),aa];refine aD (TT a d j i (f:=λc=>Gt LC m t c.1 c.2) (λaK e k=>?_) (λaK=>rfl)) λl h=>ae h
 unfold Gt;rw[aeq a d e k]
 rfl
def J1(b:cP m)(c:0<=t){g:List Int}(e:g.length=m.ai.length)(d:∀a,a∈g->fD a):Ok (sI LC m g t) (eF m (λ_=>true) t g):=KU b c e d
def akK(b:cP m)(d:0<=t){S g:List Int}(i:Fit S)(k:g.length=m.ai.length)(j:∀a,a∈g->fD a):Ok (Ay LC m g t S) (eF m (λa=>c5 (a∈S)) t g):=by
 unfold Ay;have:=b.1;rw[bV (cX (n:=64) (by omega) (by decide)),aa];refine aD (TT b d k j (f:=λc=>HZ LC m t S c.1 c.2) (λaK e l=>?_) (λaK=>rfl)) λo h=>ae h
 unfold HZ;rw[UZ b d i e l]
 rfl
end
def Fy{b:Bool}{c:Option Bool}{a:Bool}(d:c=c7 a):(bif b then c7 true else c)=c7 (b||a):=by subst d;cases b <;> rfl
def M5{b:Bool}{c:Option Bool}{a:Bool}(d:c=c7 a):(bif (!b) then c7 true else c)=c7 (!b||a):=by subst d;cases b <;> rfl
def Shaped(c:ak)(a:aM):Prop:=a.an.length=c.ai.length/\(0<=a.aa0/\a.aa0<=2147483648)/\∀b,b∈a.an->fD b
instance (a:ak) (b:aM):Decidable (Shaped a b):=by unfold Shaped;infer_instance
def Pk{c:ak}{b:aM}(j:Fit c.ai):ur LC c b=c7 (c5 (Shaped c b)):=by
 unfold ur
 by_cases i:(b.an.length:Int)=(c.ai.length:Int)
 .have k:Fit b.an:=by show b.an.length<=_;have:c.ai.length<=_:=j;omega
  have m:zZ LC b.an=c7 (b.an.any λg=>!c5 (fD g)):=by
   unfold zZ GG;have:=fF (l:=b.an) (P:=λe=>DR LC e) (p:=λg=>!c5 (fD g)) (f:=λd=>GO LC b.an d) k (λe o=>by
    unfold DR;rw[cF,aa]
    by_cases a:e=1099511627776
    .rw[aG (λn=>n a),decide_eq_true (show fD e from .inr a)];rfl
    .rw[aC a]
     congr 2
     apply decide_eq_decide.2
     exact⟨λh=>.inl h,λh=>h.resolve_right a⟩) (λd=>rfl)
   rw[show(LC.loop (λd=>GO LC b.an d) 0).bind _=_ from this,aa,gm]
  rw[aC i,cF,aa,m,aa,ot,fm rfl]
  congr 1
  apply decide_eq_decide.2
  exact⟨λa=>⟨by omega,a⟩,λa=>a.2⟩
 .rw[aG i,decide_eq_false (λa=>i (by have:=a.1;omega))]
def GV{a b:List Int}(l:Fit a):qG LC a b=c7 (c5 (a=b)):=by
 have n:a.length<=4611686018427387904:=l;unfold qG
 by_cases e:(a.length:Int)=(b.length:Int)
 .rw[aG (λh=>h e)];have m:bO (λd=>yU LC a b d) 0=c7 (if ∀i,i<a.length->(λi:Nat=>c5 (a.getD i 0≠b.getD i 0)) i=false then .inr () else .inl ()):=by
   refine oD _ _ () (λi k=>?_) ?_
   .unfold yU;rw[aC,uu k,aa,uu (by omega),aa,aJ]
    by_cases c:a.getD i 0≠b.getD i 0
    .rw[aC c];simp only[decide_eq_true c,cond_true]
    .rw[aG c];simp only[decide_eq_false c,cond_false]
   .unfold yU;rw[aG]
  rw[show LC.loop (λd=>yU LC a b d) 0=_ from m,aa]
  by_cases g:a=b
  .subst g;rw[if_pos (λi k=>decide_eq_false (λh=>h rfl)),decide_eq_true rfl];rfl
  .rw[if_neg (λf=>g ?_),decide_eq_false g];rfl;apply List.ext_getElem (by omega)
   intro i j c;have:=of_decide_eq_false (f i j);rw[ej,pu (c6 j),pu (c6 c)] at this;exact this
 .rw[aC e,decide_eq_false (λf=>e (by rw[f]))]
def uw{a:vG}{c:Int}{g:Int->Int}(e:pG a c (λq=>(λ_:Int=>true) q=true) g):eN a c g:=λp q d h _ b f=>e p q d h rfl b f
def EF{a:vG}{c d:Int}{g:Int->Int}(f:eN a c g)(k:c<=d):eN a d g:=λp q e i b h j=>by
 have:=f p q e i b h (by omega);omega
def jK(b:ak)(a:aM):Prop:=Shaped b a/\eN (rL b) a.aa0 (fn a.an)
def OI(d:ak)(g:aM):Ok (n7 LC d g) λb=>b=true->cP d/\jK d g:=by
 unfold n7;rw[ko,aa];refine aV (λe=>?_) (λ_=>ae λa=>by cases a)
 have:=e.1;rw[Pk (by show d.ai.length<=_;omega),aa];refine aV (λc=>?_) (λ_=>ae λa=>by cases a)
 refine aD (KU e c.2.1.1 c.1 c.2.2) λout f=>?_
 rw[GV (by show out.length<=_;rw[f.len,c.1];omega),aa];refine ae λa=>⟨e,c,?_⟩
 rw[<-of_decide_eq_true a];exact uw f.cl
def aiV{n:Int}(h0:0<=n)(j:n<=1000):vk LC 1 n=c7 (0,n):=by
 have d:∀a:Nat,a<=1000->vk LC 1 (a:Int)=c7 (0,(a:Int)):=by
  intro a i;have f:iN .u64 1 32=c7 0:=by rfl
  have c:iN .u64 (a:Int) 32=c7 0:=by
   rw[AD (by omega),show(2:Int)^ (min (32:Int).toNat hQ.bits)=4294967296 from rfl,j1 _ (by omega),Int.ediv_eq_zero_of_lt (by omega) (by omega)]
  have g:bits .and .u64 (a:Int) 4294967295=(a:Int):=by
   show hQ.wrap ((m5 64 (a:Int) &&& m5 64 ((4294967295:Nat):Int)).toNat:Int)=_
   rw[BitVec.toNat_and,j2,j2,j6,j6,kh (show a<2^64 by omega),show(4294967295:Nat)%2^64=2^32 -1 from rfl,Nat.and_two_pow_sub_one_eq_mod,kh (by omega),mB (by omega) (by omega)]
  have h:bits .and .u64 1 4294967295=1:=by rfl
  have b:iN .u64 0 32=c7 0:=by rfl
  have e:bits .and .u64 0 4294967295=0:=by rfl
  have z:hQ.wrap 0=0:=by rfl
  unfold vk;rw[f,aa,c,aa,g,h];simp only[Int.one_mul,Int.mul_zero,q6,m6,Int.mul_one,z];rw[mB (n:=(a:Int)) (by omega) (by omega),c,aa,z,b,aa,e,m6,z,b,aa]
  rfl
 obtain⟨a,rfl⟩:=j7 h0;exact d a (by omega)
def aaT{v:Int}(c:Nat)(x:c<=1000):∀(g:Nat) (a:Nat) (b:List Int),1<=a->c -a<=g->b.length=c->(∀i,i<a->i<c->b[i]?=c7 v)->bO (λn:List Int×Int=>pZ LC n.1 n.2) (b,(a:Int))=c7 (ec c v):=by
 intro g
 induction g with
 |zero=>
  intro a b q o m f;refine fZ ?_
  dsimp only;unfold pZ;rw[aG]
  congr 2
  apply la
  intro i
  by_cases d:i<c
  .rw[f i (by omega) d,hq,if_pos d]
  .rw[ih (by omega),hq,if_neg d]
 |succ g s=>
  intro a b q o m f
  by_cases u:a<c
  .let e:=(b.drop (0:Int).toNat).take ((a:Int).toNat - (0:Int).toNat)
   have k:e=b.take a:=by show(b.drop 0).take (a -0)=_;rw[k0,Nat.sub_zero]
   have p:e.length=a:=by rw[k,ea];omega
   have h:X.mg e (a:Int).toNat ((b.length:Int).toNat - (a:Int).toNat) b=b.take a++((b.take a).take (c -a)++b.drop (a+((b.take a).take (c -a)).length)):=by
    unfold X.mg;rw[k,dk,dk,m]
   rw[iO (a':=(X.mg e (a:Int).toNat ((b.length:Int).toNat - (a:Int).toNat) b,((a+min (c -a) a:Nat):Int)))]
   .refine s (a+min (c -a) a) _ (by omega) (by omega) ?_ (λi d r=>?_)
    .rw[h];simp only[eo,ea,h5];omega
    .rw[h];have j:(b.take a).length=a:=by rw[ea];omega
     have w:((b.take a).take (c -a)).length=min (c -a) a:=by rw[ea,j]
     by_cases l:i<a
     .rw[h6 (by omega),l3,if_pos l];exact f i l r
     .rw[eH (by omega),j,h6 (by omega),l3,if_pos (by omega),l3,if_pos (by omega)];exact f _ (by omega) (by omega)
   .dsimp only;unfold pZ;rw[aC,l8 (by omega) (by omega) (by omega),aa,l8 (by omega) (by omega) (by omega),aa];have t:c3 c4 ((a:Int)+((min ((b.length:Int).toNat - (a:Int).toNat) e.length:Nat):Int))=((a+min (c -a) a:Nat):Int):=by
     rw[p,aJ];omega
    show c7 (m0 (_,c3 c4 ((a:Int)+((min ((b.length:Int).toNat - (a:Int).toNat) e.length:Nat):Int))))=_
    rw[t]
  .refine fZ ?_
   dsimp only;unfold pZ;rw[aG]
   congr 2
   apply la
   intro i
   by_cases d:i<c
   .rw[f i (by omega) d,hq,if_pos d]
   .rw[ih (by omega),hq,if_neg d]
def Oa{v:Int}{n:Nat}(g:n<=1000):EC LC [v] (n:Int)=c7 (ec n v):=by
 unfold EC DJ;have d:hQ.wrap (([v].length:Nat):Int)=1:=by simp only[ez,hL];rfl
 rw[aG,d,mB (n:=(n:Int)) (by omega) (by omega),aiV (by omega) (by omega),aa,aa,ew rfl,aa,aG (by dsimp only;omega)];dsimp only;rw[aJ,nS (by omega) (by omega),aa,dk]
 by_cases h0:n=0
 .subst h0;have b:bO (λa:List Int×Int=>pZ LC a.1 a.2) ([],0)=c7 []:=fZ (by dsimp only;unfold pZ;rw[aG (by simp)]);exact(dL (m:=LC.loop (λa:List Int×Int=>pZ LC a.1 a.2) ([],0)) b)
 .have f:X.mg [v] 0 (ec n (0:Int)).length (ec n (0:Int))=v::ec (n -1) 0:=by
   obtain⟨c,rfl⟩:∃c,n=c+1:=⟨n -1,by omega⟩;unfold X.mg;rw[e6];simp[List.replicate_succ]
  rw[f,e6];have e:((min n ([v]:List Int).length:Nat):Int)=((1:Nat):Int):=by simp only[ez,hL];omega
  rw[e];have b:=aaT (v:=v) n g n 1 (v::ec (n -1) 0) (h8 _) (by omega) (by simp only[ez,e6];omega) (λi h _=>by
   have:i=0:=by omega
   subst this;rfl)
  exact dL b
def B6{v:Int}{a:Nat}(b:a<=1000):sJ LC [v] (a:Int)=c7 (ec a v):=Oa b
def QL{a:ak}(b:cP a):yF LC a=c7 (ec a.ai.length 1099511627776):=by
 have:=b.1;unfold yF;rw[B6 (by omega),aa]
def aoN{a:Nat}{v p:Int}(h0:0<=p)(b:p<(a:Int)):fn (ec a v) p=v:=Q4 (by rw[hq,if_pos (by omega)])
def aaW{a:ak}(c:cP a){p t:Int}(b:0<=p/\p<(a.ai.length:Int))(e:0<=t/\t<=2147483648):Ok (Cr LC a p t) λq=>q.2=0/\q.1.aa0=t/\jK a q.1/\fn q.1.an p<=t:=by
 have:=c.1;unfold Cr;rw[ko,aa,de,aC c,aJ,cF,aa,de,aC,cF,aa,de,aC e,QL c,aa];have g:(ec a.ai.length (1099511627776:Int)).length=a.ai.length:=e6;rw[gH b.1 (by omega),aa,iD b.1 (by omega),aa];have i:∀f,f∈(ec a.ai.length (1099511627776:Int)).set p.toNat t->fD f:=λf h=>by
  rcases ev h with h |rfl
  .exact .inr (gx h)
  .exact .inl e
 refine aD (J1 c e.1 (by rw[dT];exact g) i) λout d=>ae ⟨rfl,rfl,⟨⟨?_,e,d.sh⟩,uw d.cl⟩,?_⟩
 .show out.length=_
  rw[d.len,dT];exact g
 .have:=d.le p b.1 (by rw[dT,g];exact b.2);rw[wy b.1 (by omega) b.1,if_pos rfl] at this;exact this
def x4(a:ak)(b:List Int):Prop:=cj 0 ((a.ai.length:Int) -1) b
instance (a:ak) (b:List Int):Decidable (x4 a b):=by unfold x4;infer_instance
def x4.fit{m:ak}(c:cP m){a:List Int}(h:x4 m a):a.length<=64:=by
 have:=cj.len h (by omega);have:=c.1;omega
def ME(c:ak)(f:aM)(g:List Int)(d b:Int)(m:Fit g)(i:Fit c.ai):Ok (vY LC c f g d b) λe=>(e=0\/e=6\/e=8)/\(e=0->cP c/\jK c f/\x4 c g/\(0<=d/\d<=2147483648)/\(0<=b/\b<=2147483648)/\d<=b):=by
 have p:c.ai.length<=4611686018427387904:=i;unfold vY;obtain⟨v,k,j⟩:=OI c f;rw[k,aa,aJ (n:=(c.ai.length:Int) -1),kw _ _ _ m,aa,lA,ew rfl,M5 rfl,aa];refine dy (λa=>ae ⟨.inr (.inl rfl),λa=>by cases a⟩) (λa=>?_)
 rw[j3] at a;have h:=j (by simpa using a.1);have l:=of_decide_eq_false a.2;rw[cF,aa,cF,aa,fh (fh rfl),aa];refine aV (λa=>ae ⟨.inr (.inr rfl),λa=>by cases a⟩) (λq=>ae ⟨.inl rfl,λ_=>⟨h.1,h.2,dv λo=>l (.inr o),?_⟩⟩)
 omega
structure lG (m:ak) (w:aM) (l:List Int) (a b:Int) (x:aM):Prop where
 fN:cP m
 bG:jK m w
 new:jK m x
 time:x.aa0=b
 ab:0<=a/\a<=b/\b<=2147483648
 from_:w.aa0<=a
 cl:eN (rL m) a (fn x.an)
 low:∀p,p∈l->fn w.an p<=b->fn x.an p<=fn w.an p
 NK:∀p,0<=p->p<(m.ai.length:Int)->fn w.an p<=fn x.an p
def afE(f:ak)(a:aM)(l:List Int)(A b:Int)(ad:Fit l)(U:Fit f.ai):Ok (yX LC f a l A b) λq=>(q.2=0/\lG f a l A b q.1)\/(q.2=43/\q.1=a/\a.aa0<=A/\∀p,p∈l->b<fn a.an p)\/((q.2=6\/q.2=8\/q.2=42)/\q.1=a):=by
 unfold yX;refine aD (ME f a l A b ad U) λt Q=>?_
 refine aV (λD=>ae (.inr (.inr ⟨?_,rfl⟩))) (λD=>?_)
 .rcases Q.1 with c |c |c
  .exact absurd c D
  .exact .inl c
  .exact .inr (.inl c)
 obtain⟨C,v,h,R,L,K⟩:=Q.2 (ej.1 D);refine aV (λD=>ae (.inr (.inr ⟨.inr (.inr rfl),rfl⟩))) (λc=>?_)
 rw[QL C,aa];have ai:=v.1.1;have aj:=h.fit C;have af:(ec f.ai.length (1099511627776:Int)).length=f.ai.length:=e6;have W:∀p,0<=p->p<(f.ai.length:Int)->fn a.an p<=1099511627776:=λp h0 c=>by
  have:=v.1.2.2 _ (oR (l:=a.an) h0 (by omega));unfold fD at this;omega
 have I:∀p,p∈l->0<=p/\p<(f.ai.length:Int):=λp S=>by have:=h.mem S;omega
 have ah:Ok (bO (λe:List Int×Bool×Int=>Ds LC l a b e.1 e.2.1 e.2.2) (ec f.ai.length (1099511627776:Int),false,0)) λn=>
  n.1.length=f.ai.length/\(∀x,x∈n.1->fD x)/\(∀p,0<=p->p<(f.ai.length:Int)->fn a.an p<=fn n.1 p)/\(∀p,p∈l->fn a.an p<=b->fn n.1 p<=fn a.an p/\n.2=true):=by
  refine di l.length (λi e=>e.2.2=(i:Int)/\e.1.length=f.ai.length/\(∀x,x∈e.1->fD x)/\(∀p,0<=p->p<(f.ai.length:Int)->fn a.an p<=fn e.1 p)/\(∀g p,g<i->l[g]?=c7 p->fn a.an p<=b->fn e.1 p<=fn a.an p/\e.2.1=true)) _ (λi e P H=>?_) (λe H=>?_) _ ⟨rfl,af,λx w=>.inr (gx w),λp h0 c=>by rw[aoN h0 c];exact W p h0 c,λg p y=>by omega⟩
  .obtain⟨aK,Y,T⟩:=e;obtain⟨rfl,j,r,k,m⟩:=H;dsimp only at j r k m⊢;have z:l[i]?=c7 l[i]:=c6 P;have s:=I _ (dd P);generalize l[i]=p at z s;unfold Ds;rw[aC,bn,z,aa,gH s.1 (by omega),aa,aa,gH (l:=aK) s.1 (by omega),aa,iD (l:=aK) s.1 (by omega),aa];have O:=λq d=>wy (l:=aK) (p:=p) (q:=q) (x:=fn a.an p) s.1 (by omega) d
   by_cases F:fn a.an p<=b
   .rw[aC F,aa,aJ];refine ae ⟨rfl,by rw[dT];exact j,λx w=>?_,λq h0 c=>?_,λg q y d B=>⟨?_,rfl⟩⟩
    .rcases ev w with w |rfl
     .exact r x w
     .exact v.1.2.2 _ (oR (l:=a.an) s.1 (by omega))
    .dsimp only;rw[O q h0]
     split
     .rename_i t;rw[t];exact ey _
     .exact k q h0 c
    .dsimp only;have V:=I q (fC d);rw[O q V.1]
     split
     .rename_i t;rw[t];exact ey _
     .rename_i t
      by_cases G:g=i
      .subst G;rw[z] at d;injection d with d
       exact absurd d.symm t
      .exact(m g q (by omega) d B).1
   .rw[aG F,aa,aJ];refine ae ⟨rfl,j,r,k,λg q y d B=>?_⟩
    by_cases G:g=i
    .subst G;rw[z] at d;injection d with d
     subst d;exact absurd B F
    .exact m g q (by omega) d B
  .obtain⟨aK,Y,T⟩:=e;obtain⟨rfl,j,r,k,m⟩:=H;dsimp only at j r k m⊢;unfold Ds;rw[aG];refine ae ⟨j,r,k,λp h E=>?_⟩
   obtain⟨g,y,rfl⟩:=e5.1 h;exact m g _ y (c6 y) E
 refine aD ah λn Z=>?_
 obtain⟨u,X,ab,N⟩:=Z;rw[de];refine dy (λJ=>?_) (λJ=>ae (.inr (.inl ⟨rfl,rfl,by omega,λp h=>?_⟩)))
 .refine aD (J1 C R.1 u X) λout o=>ae (.inl ⟨rfl,C,v,⟨⟨o.len.trans u,L,o.sh⟩,EF (uw o.cl) K⟩,rfl,⟨R.1,K,L.2⟩,by omega,uw o.cl,λp h E=>?_,λp h0 c=>?_⟩)
  .have M:=I p h;exact q7 (o.le p M.1 (by rw[u];exact M.2)) (N p h E).1
  .refine o.low (fn a.an) (λp q ac j _ k m=>?_) (λp h0 c=>ab p h0 (by rw[u] at c;exact c)) p h0 (by rw[u];exact c)
   exact EF v.2 (by omega) p q ac j trivial k m
 .refine Int.not_le.1 λag=>?_
  rw[(N p h ag).2] at J;cases J
structure og (m:ak) (w:aM) (l:List Int) (a b blind:Int) (x:aM) (g1:List Int):Prop where
 fN:cP m
 bG:jK m w
 new:jK m x
 time:x.aa0=b
 ab:0<=a/\a<=b/\b<=2147483648
 from_:w.aa0<=b
 bl:0<=blind/\blind<b -max a w.aa0
 off:∀p,0<=p->p<(m.ai.length:Int)->p∉l->fn g1 p<=fn w.an p
 c1:pG (rL m) (b -blind) (λq=>q∈l) (fn g1)
 le:∀p,0<=p->p<(m.ai.length:Int)->fn x.an p<=fn g1 p
 NK:∀p,0<=p->p<(m.ai.length:Int)->fn w.an p<=fn x.an p
def aaS(d:ak)(c:aM)(l:List Int)(v b C:Int)(I:Fit l)(R:Fit d.ai):Ok (wV LC d c l v b C) λq=>(q.2=0/\((∃z,og d c l v b C q.1 z)\/q.1=c))\/((q.2=6\/q.2=8\/q.2=42)/\q.1=c):=by
 unfold wV;refine aD (ME d c l v b I R) λA K=>?_
 refine aV (λG=>ae (.inr ⟨?_,rfl⟩)) (λG=>?_)
 .rcases K.1 with a |a |a
  .exact absurd a G
  .exact .inl a
  .exact .inr (.inl a)
 obtain⟨t,m,y,Z,B,N⟩:=K.2 (ej.1 G);rw[cF,aa,de];refine aV (λM=>?_) (λ_=>ae (.inr ⟨.inr (.inl rfl),rfl⟩))
 refine aV (λ_=>ae (.inr ⟨.inr (.inr rfl),rfl⟩)) (λa=>?_)
 have af:=m.1.2.1;rw[aJ (n:=b -max v c.aa0)];refine aV (λ_=>ae (.inl ⟨rfl,.inr rfl⟩)) (λac=>?_)
 have O:=m.1.1;have ag:=t.1;have ad:=y.fit t;have X:∀p,p∈l->0<=p/\p<(d.ai.length:Int):=λp P=>by have:=y.mem P;omega
 have S:∀p,0<=p->p<(d.ai.length:Int)->fn c.an p<=1099511627776:=λp h0 a=>by
  have:=m.1.2.2 _ (oR (l:=c.an) h0 (by omega));unfold fD at this;omega
 rw[bV (cX (n:=64) (by omega) (by decide)),aa];have ab:Ok (bO (λe:List Int×Int=>CO LC l e.1 e.2) (c.an,0)) λs=>
  s.length=d.ai.length/\(∀x,x∈s->fD x)/\(∀p,0<=p->p<(d.ai.length:Int)->fn c.an p<=fn s p)/\(∀p,0<=p->p<(d.ai.length:Int)->p∉l->fn s p=fn c.an p):=by
  refine di l.length (λi e=>e.2=(i:Int)/\e.1.length=d.ai.length/\(∀x,x∈e.1->fD x)/\(∀p,0<=p->p<(d.ai.length:Int)->fn c.an p<=fn e.1 p)/\(∀p,0<=p->p<(d.ai.length:Int)->p∉l->fn e.1 p=fn c.an p)) _ (λi e E D=>?_) (λe D=>?_) _ ⟨rfl,O,m.1.2.2,λp h0 a=>ey _,λp _ _ _=>rfl⟩
  .obtain⟨aK,Q⟩:=e;obtain⟨rfl,f,o,g,h⟩:=D;dsimp only at f o g h⊢;have H:l[i]?=c7 l[i]:=c6 E;have r:=X _ (dd E);have L:=dd E;generalize l[i]=p at H r L;unfold CO;rw[aC,bn,H,aa,gH (l:=aK) r.1 (by omega),aa,iD (l:=aK) r.1 (by omega),aa,aJ];have J:=λq w=>wy (l:=aK) (p:=p) (q:=q) (x:=1099511627776) r.1 (by omega) w
   refine ae ⟨rfl,by rw[dT];exact f,λx F=>?_,λq h0 a=>?_,λq h0 a w=>?_⟩
   .rcases ev F with F |rfl
    .exact o x F
    .exact .inr rfl
   .dsimp only;rw[J q h0]
    split
    .rename_i A;rw[A];exact S p r.1 r.2
    .exact g q h0 a
   .dsimp only;rw[J q h0,if_neg (λA=>w (by rw[A];exact L))];exact h q h0 a w
  .obtain⟨aK,Q⟩:=e;obtain⟨rfl,f,o,g,h⟩:=D;dsimp only at f o g h⊢;unfold CO;rw[aG];exact ae ⟨f,o,g,h⟩
 refine aD ab λs V=>?_
 obtain⟨j,T,W,Y⟩:=V;rw[aJ (n:=b -C)];refine aD (akK t (by omega) I j T) λz k=>?_
 refine aD (J1 t B.1 (k.len.trans j) k.sh) λout u=>ae (.inl ⟨rfl,.inl ⟨z,?_⟩⟩)
 have U:∀p,0<=p->p<(d.ai.length:Int)->fn c.an p<=fn z p:=λp h0 a=>
  k.low (fn c.an) (λp q n f _ g h=>EF m.2 (by omega) p q n f trivial g h) (λp h0 a=>W p h0 (by rw[j] at a;exact a)) p h0 (by rw[j];exact a)
 refine⟨t,m,⟨⟨u.len.trans (k.len.trans j),B,u.sh⟩,uw u.cl⟩,rfl,⟨Z.1,N,B.2⟩,by omega,⟨M.1,by omega⟩,λp h0 a y=>?_,λp q n f o g h=>k.cl p q n f (decide_eq_true o) g h,λp h0 a=>u.le p h0 (by rw[k.len,j];exact a),λp h0 a=>?_⟩
 .rw[<-Y p h0 a y];exact k.le p h0 (by rw[j];exact a)
 .exact u.low (fn c.an) (λp q n f _ g h=>EF m.2 (by omega) p q n f trivial g h) (λp h0 a=>U p h0 (by rw[k.len,j] at a;exact a)) p h0 (by rw[k.len,j];exact a)
def acF{a:aM}{b:Int}(c:Sm a.an):xc LC a b=c7 (if b<a.aa0\/2147483648<b then(a,8) else(⟨b,a.an⟩,0)):=by
 unfold xc;rw[ew rfl,aa,bV c,aa,wL]
 split <;> rfl
structure mP (m:ak) (w:aM) (t:Int) (x:aM):Prop where
 fN:cP m
 bG:Shaped m w
 new:jK m x
 time:x.aa0=t
 wt:w.aa0<=t/\t<=2147483648
 le:∀p,0<=p->p<(m.ai.length:Int)->fn x.an p<=fn w.an p
 NK:∀h:Int->Int,eN (rL m) t h->(∀p,0<=p->p<(m.ai.length:Int)->h p<=fn w.an p)->∀p,0<=p->p<(m.ai.length:Int)->h p<=fn x.an p
def Pd(d:ak)(f:aM)(e:Int)(n:Fit d.ai):Ok (xT LC d f e) λq=>(q.2=0/\mP d f e q.1)\/((q.2=6\/q.2=8)/\q.1=f):=by
 unfold xT;rw[ko,aa,Pk n,aa,lA,fh rfl,aa];refine aV (λ_=>ae (.inr ⟨.inl rfl,rfl⟩)) (λa=>?_)
 have h:cP d:=dv λg=>a (.inl g)
 have b:Shaped d f:=dv λg=>a (.inr g)
 rw[ew rfl,aa];refine aV (λ_=>ae (.inr ⟨.inr rfl,rfl⟩)) (λs=>?_)
 have t:=b.2.1;refine aD (KU h (by omega) b.1 b.2.2) λout c=>ae (.inl ⟨rfl,h,b,⟨⟨c.len.trans b.1,⟨by show 0<=e;omega,by show e<=_;omega⟩,c.sh⟩,uw c.cl⟩,rfl,⟨by omega,by omega⟩,λp h0 a=>c.le p h0 (by rw[b.1];exact a),λl r m p h0 a=>?_⟩)
 exact c.low l (λp q j i _ k o=>r p q j i trivial k o) (λp h0 a=>m p h0 (by rw[b.1] at a;exact a)) p h0 (by rw[b.1];exact a)
def acr(f:List Int)(a:ak)(b c:Int):IJ LC f a b c=xT LC a ⟨b,f⟩ c:=rfl
def ib(a b:aM):aM:=⟨max a.aa0 b.aa0,ef min a.an b.an⟩
def join_eq{a b:aM}(k:a.an.length=b.an.length)(e:Sm a.an):xW LC a b=c7 (ib a b,0):=by
 have l:a.an.length<=1000000:=e;unfold xW;rw[aG];have g:=nV (f:=λc:Int×List Int×Int=>EG LC a b (aM.mk c.1 c.2.1) c.2.2) a.an.length (λi=>(max a.aa0 b.aa0,(ef min a.an b.an).take i,(i:Int))) (max a.aa0 b.aa0,ef min a.an b.an) (λi d=>?_) (by
  dsimp only;unfold EG;rw[aG,hM (by rw[ga];omega)])
 .refine(dL g).trans ?_
  rfl
 .dsimp only;unfold EG;have j:(ef min a.an b.an)[i]?=c7 (min a.an[i] (b.an[i]'(by omega))):=by
   rw[c6 (by rw[ga];omega),hS]
  rw[aC,bn,c6 d,aa,bn,c6 (by omega),aa,dm (by decide) (by dsimp only;rw[ea,ga];omega),aa,aJ];have h:(ef min a.an b.an).take (i+1)=(ef min a.an b.an).take i++[min a.an[i] (b.an[i]'(by omega))]:=by
   rw[o3,j];rfl
  rw[h]
  rfl
def PL{a b:aM}{p:Int}(f:a.an.length=b.an.length)(h0:0<=p)(d:p<(a.an.length:Int)):fn (ib a b).an p=min (fn a.an p) (fn b.an p):=by
 have c:=iD (l:=a.an) h0 d;have e:=iD (l:=b.an) h0 (by omega);refine Q4 ?_
 show(ef min a.an b.an)[p.toNat]?=_
 rw[List.getElem?_zipWith,c,e]
def jK.join{m:ak}{a b:aM}(c:jK m a)(d:jK m b)(B:cP m):jK m (ib a b):=by
 have k:a.an.length=b.an.length:=c.1.1.trans d.1.1.symm;have F:=c.1.2.1;have I:=d.1.2.1;refine⟨⟨?_,⟨?_,?_⟩,λx A=>?_⟩,λp q n y _ C s=>?_⟩
 .show(ef min a.an b.an).length=_
  rw[ga, <-k,c.1.1];omega
 .show 0<=max a.aa0 b.aa0;omega
 .show max a.aa0 b.aa0<=_;omega
 .obtain⟨i,hi,rfl⟩:=e5.1 (show x∈ef min a.an b.an from A);rw[ga] at hi;rw[hS];have E:=c.1.2.2 _ (dd (show i<a.an.length by omega));have D:=d.1.2.2 _ (dd (show i<b.an.length by omega));unfold fD at*;omega
 .obtain⟨i,r,e,l,t,h0,j,h⟩:=y;obtain⟨o,u⟩:=Cn B l e;rw[<-j] at o;rw[<-h] at u;have G:=c.1.1;rw[PL k o.1 (by omega)] at C s⊢;rw[PL k u.1 (by omega)];have w:(ib a b).aa0=max a.aa0 b.aa0:=rfl;rw[w] at s⊢
  by_cases H:fn a.an p<=fn b.an p
  .have:=c.2 p q n ⟨i,r,e,l,t,h0,j,h⟩ trivial (by omega) (by omega);omega
  .have:=d.2 p q n ⟨i,r,e,l,t,h0,j,h⟩ trivial (by omega) (by omega);omega
def kM(p:Int->Bool)(a:Nat):List Int:=(List.range a).filterMap λ(i:Nat)=>if p (i:Int) then c7 (i:Int) else j5
def SJ{p:Int->Bool}{c:Nat}{a:Int}:a∈kM p c↔0<=a/\a<(c:Int)/\p a=true:=by
 unfold kM;rw[List.mem_filterMap]
 constructor
 .rintro⟨i,e,b⟩;rw[mx] at e
  split at b
  .injection b with b
   subst b;exact⟨by omega,by omega,by assumption⟩
  .cases b
 .rintro⟨g,f,d⟩;refine⟨a.toNat,mx.2 (by omega),?_⟩
  rw[show((a.toNat:Nat):Int)=a by omega,if_pos d]
def pQ{p:Int->Bool}{n:Nat}:(kM p n).length<=n:=by
 unfold kM;exact hz (List.length_filterMap_le _ _) (by rw[List.length_range];exact h8 _)
def afI{p:Int->Bool}{a:Nat}:kM p (a+1)=if p (a:Int) then kM p a++[(a:Int)] else kM p a:=by
 unfold kM;rw[List.range_succ,List.filterMap_append]
 split
 .rename_i b;simp[b]
 .rename_i b;simp[b]
def GY{n:Nat}(l:n<=1000000){P:Int->Option Bool}{p:Int->Bool}{f:List Int×Int->Option ((List Int×Int)⊕List Int)}(g:∀i:Nat,i<n->P (i:Int)=c7 (p (i:Int)))
 (c:∀b a,f (b,a)=bif c5 (a<(n:Int)) then(P a).bind λd=>(bif d then(bj 8 b ([a]:List Int)).bind λe=>c7 e else c7 b).bind λh=>c7 (.inl (h,c3 c4 (a+1))) else c7 (.inr b)):
 bO f ([],0)=c7 (kM p n):=by
 refine nV (f:=f) n (λi=>(kM p i,(i:Int))) (kM p n) (λi j=>?_) (by rw[c,aG])
 rw[c,aC,g i j,aa,afI];have:=pQ (p:=p) (n:=i);rw[dm (by decide) (by omega),aJ];cases k:p (i:Int) with
 |true=>rfl
 |false=>rfl
def dz(a:aM)(b:Int):List Int:=kM (λp=>c5 (fn a.an p<=b)) a.an.length
def Az{a:aM}{c:Int}(d:Sm a.an):su LC a c=c7 (dz a c):=by
 unfold su HL;have e:=GY (n:=a.an.length) d (P:=λb=>Dw LC b a c) (p:=λp=>c5 (fn a.an p<=c)) (f:=λb=>Ge LC (a.an.length:Int) a c b.1 b.2) (λi g=>by
  unfold Dw;rw[gH (by omega) (by omega),aa]) (λh b=>rfl)
 rw[show LC.loop (λb:List Int×Int=>Ge LC (a.an.length:Int) a c b.1 b.2) ([],0)=_ from e,aa,aa]
 rfl
def Sq{b:aM}{c a:Int}:a∈dz b c↔0<=a/\a<(b.an.length:Int)/\fn b.an a<=c:=by
 unfold dz;rw[SJ,decide_eq_true_iff]
def Zn{c b:aM}{a:Int}(i:Sm c.an)(k:Sm b.an):EE LC c b a=c7 (c5 (∃d,d∈dz c a/\d∈dz b a)):=by
 unfold EE;rw[Az k,aa,Az i,aa];have n:Fit (dz b a):=by
  have:(dz b a).length<=b.an.length:=pQ;have:b.an.length<=1000000:=k;show(dz b a).length<=_
  omega
 have m:Fit (dz c a):=by
  have:(dz c a).length<=c.an.length:=pQ;have:c.an.length<=1000000:=i;show(dz c a).length<=_
  omega
 have o:B3 LC (dz c a) (dz b a)=c7 ((dz c a).any λd=>c5 (d∈dz b a)):=by
  unfold B3 Iw;have:=fF (l:=dz c a) (P:=λj=>zO LC j (dz b a)) (p:=λd=>c5 (d∈dz b a)) (f:=λe=>IF LC (dz c a) (dz b a) e) m (λj q=>by
   unfold zO;rw[contains_eq n,aa]) (λe=>rfl)
  rw[show(LC.loop (λe=>IF LC (dz c a) (dz b a) e) 0).bind _=_ from this,aa,gm]
 rw[o,aa]
 congr 1
 rw[ma,m2,decide_eq_true_iff]
 constructor
 .rintro⟨d,h,g⟩;exact⟨d,h,of_decide_eq_true g⟩
 .rintro⟨d,h,g⟩;exact⟨d,h,decide_eq_true g⟩
structure tz (w:ay):Prop where
 tg:Sm w.aw
 wh:Sm w.aH
 fr:∀x,x∈w.aH->Sm x.an
def gF(b:aL):Prop:=Sm b.aA/\∀a,a∈b.aA->tz a
def Tz{a:ay}(e:tz a):oM LC a=c7 a:=by
 unfold oM;rw[bV e.tg,aa];have j:=jm (f:=λd:List Int×List aM×Int=>r9 LC a (ay.mk d.1 d.2.1) d.2.2) a.aH (λb i=>(a.aw,b,i)) (λb=>(a.aw,b)) (λb g k c=>by
  dsimp only;unfold r9;have h:=jW e.wh c;rw[aC (iy c),jg c,aa,bV (e.fr g (ks c)),aa,dm (by decide) h,aa,aJ]) (by
  dsimp only;unfold r9;rw[aG])
 exact dL j
def zK{a:ay}(e:tz a):mH LC a=c7 (a.aH,a.aw):=by
 unfold mH;rw[bV e.tg,aa];have j:=jm (f:=λd:List Int×List aM×Int=>CH LC a (ay.mk d.1 d.2.1) d.2.2) a.aH (λb i=>(a.aw,b,i)) (λb=>(a.aw,b)) (λb g k c=>by
  dsimp only;unfold CH;have h:=jW e.wh c;rw[aC (iy c),jg c,aa,bV (e.fr g (ks c)),aa,dm (by decide) h,aa,aJ]) (by
  dsimp only;unfold CH;rw[aG])
 exact dL j
def Zo{a:ay}(d:tz a):Ac LC a=c7 (a.aw,a.aH):=by
 unfold Ac;rw[bV d.tg,aa];have j:=jm (f:=λe:List aM×Int=>CV LC a (ay.mk a.aw e.1) e.2) a.aH (λb i=>(b,i)) (λb=>b) (λb g k c=>by
  dsimp only;unfold CV;have h:=jW d.wh c;rw[aC (iy c),jg c,aa,bV (d.fr g (ks c)),aa,dm (by decide) h,aa,aJ]) (by
  dsimp only;unfold CV;rw[aG])
 exact dL j
def kG(a b:Int):Int:=if a<b then -1 else if b<a then 1 else 0
def G1(c b:Int):uE LC c b=c7 (kG c b):=by
 unfold uE Cl kG;rw[aa,aa,aG (λa=>a rfl),aG (λa=>a rfl),wL]
 split
 .rfl
 .rw[wL];split <;> rfl
def iH:List Int->List Int->Int
 |[],[]=>0
 |[],_::_=>-1
 |_::_,[]=>1
 |c::d,a::b=>if c<a then -1 else if a<c then 1 else iH d b
def PW{a b:List Int}(o:Sm a):sL LC a b=c7 (iH a b):=by
 have t:a.length<=1000000:=o;unfold sL;have k:∀(e i:Nat),i+e=a.length->i<=b.length->((bO (λl=>ui LC a b l) (i:Int)).bind λm=>Sum.elim (λr=>c7 r) (λs=>bif c5 ((a.length:Int)<(b.length:Int)) then c7 (-1) else c7 0) m)=c7 (iH (a.drop i) (b.drop i)):=by
  intro e
  induction e with
  |zero=>
   intro i q p;rw[fZ (b:=Sum.inr ()) (by unfold ui;rw[aG]),aa,ei,ie (show a.length<=i by omega)]
   by_cases d:(a.length:Int)<(b.length:Int)
   .rw[aC d,gb (show i<b.length by omega)];rfl
   .rw[aG d,ie (show b.length<=i by omega)];rfl
  |succ e n=>
   intro i q p;have f:i<a.length:=by omega
   rw[gb f]
   by_cases d:(b.length:Int)<=(i:Int)
   .rw[fZ (b:=m0 1) (by unfold ui;rw[aC,bn,c6 f,aa,aC d]),aa,ft,ie (show b.length<=i by omega)]
    rfl
   .have h:i<b.length:=by omega
    rw[gb h];unfold iH;have c:ui LC a b (i:Int)=bif c5 (kG a[i] b[i]≠0) then c7 (Sum.inr (m0 (kG a[i] b[i]))) else c7 (m0 ((i:Int)+1)):=by
     unfold ui;rw[aC,bn,c6 f,aa,aG d,bn,c6 h,aa,G1,aa,aJ]
    unfold kG at c
    by_cases j:a[i]<b[i]
    .rw[if_pos j] at c⊢;rw[fZ (b:=m0 (-1)) (by rw[c];rfl)];rfl
    .rw[if_neg j] at c⊢
     by_cases g:b[i]<a[i]
     .rw[if_pos g] at c⊢;rw[fZ (b:=m0 1) (by rw[c];rfl)];rfl
     .rw[if_neg g] at c⊢;rw[iO (a':=((i+1:Nat):Int)) (by rw[c];rfl)];exact n (i+1) (by omega) (by omega)
 have:=k a.length 0 (by omega) (by omega);rw[k0,k0] at this;exact this
def SV:∀a:List Int,iH a a=0
 |[]=>rfl
 |b::a=>by unfold iH;rw[if_neg (by omega),if_neg (by omega)];exact SV a
def NH:∀h b g:List Int,iH h b<0->iH b g<0->iH h g<0
 |[],[],_,a,_=>by simp[iH] at a
 |[],_::_,[],_,a=>by simp[iH] at a
 |[],_::_,_::_,_,_=>by simp[iH]
 |_::_,[],_,a,_=>by simp[iH] at a
 |_::_,_::_,[],_,a=>by simp[iH] at a
 |j::h,d::b,z::g,e,c=>by
  unfold iH at e c⊢
  by_cases l:j<d
  .by_cases f:d<z
   .rw[if_pos (by omega)];decide
   .rw[if_neg f] at c
    by_cases i:z<d
    .rw[if_pos i] at c;omega
    .rw[if_pos (by omega)];decide
  .rw[if_neg l] at e
   by_cases f:d<j
   .rw[if_pos f] at e;omega
   .rw[if_neg f] at e
    by_cases i:d<z
    .rw[if_pos (by omega)];decide
    .rw[if_neg i] at c
     by_cases k:z<d
     .rw[if_pos k] at c;omega
     .rw[if_neg k] at c;rw[if_neg (by omega),if_neg (by omega)];exact NH h b g e c
structure mz (m:ak) (b:aL):Prop where
 fN:cP m
 num:1<=b.aA.length/\b.aA.length<=24
 len:∀w,w∈b.aA->(1<=w.aw.length/\w.aw.length<=12)/\w.aH.length=w.aw.length/\lz w.aw
 perm:∀w w',w∈b.aA->w'∈b.aA->dQ w.aw=dQ w'.aw
 asc:∀i w w',b.aA[i]?=c7 w->b.aA[i+1]?=c7 w'->iH w.aw w'.aw<0
 ok:∀w,w∈b.aA->∀x,x∈w.aH->jK m x
def ah8{m:ak}{l:List aM}(k:Fit l):Ok (E5 LC l m) λb=>b=false->∀a,a∈l->jK m a:=by
 unfold E5 FJ;have g:∀a,∃b,n7 LC m a=c7 b/\(b=true->cP m/\jK m a):=λa=>OI m a
 let p:aM->Bool:=λa=>!(n7 LC m a).getD false
 have:=fF (l:=l) (P:=λc=>Ld LC c m) (p:=p) (f:=λd=>HW LC l m d) k (λc r=>by
  obtain⟨b,e,_⟩:=g c;show((n7 LC m c).bind λj=>c7 (!j))=c7 (!(n7 LC m c).getD false)
  rw[e];rfl) (λd=>rfl)
 rw[show(LC.loop (λd=>HW LC l m d) 0).bind _=_ from this,aa,gm];refine ae λh a q=>?_
 rw[m1] at h;have i:=h a q;obtain⟨b,e,o⟩:=g a;have n:p a= !b:=by show(!(n7 LC m a).getD false)=_;rw[e];rfl
 rw[n] at i;cases b with
 |true=>exact(o rfl).2
 |false=>exact absurd rfl i
def vB(m:ak)(b:aL)(u:gF b):Ok (p8 LC m b) λv=>v=true->mz m b:=by
 unfold p8;rw[ko,aa,cF,aa,lA,fh rfl,aa];refine aV (λ_=>ae λn=>by cases n) (λn=>?_)
 have R:cP m:=dv λh=>n (.inl h)
 have h:1<=(b.aA.length:Int)/\(b.aA.length:Int)<=24:=dv λh=>n (.inr h)
 have h0:b.aA[0]?=c7 (b.aA[0]'(by omega)):=c6 (by omega);have z:=dd (show 0<b.aA.length by omega);generalize b.aA[0]'(by omega)=t at h0 z;have J:aj b.aA 0=c7 t:=by rw[show(0:Int)=((0:Nat):Int) from rfl,bn];exact h0
 rw[J,aa];unfold qK;rw[aa,Iy (u.2 t z).tg,aa];refine aD (Q:=λs=>match s with | .inl _=>True | .inr _=>mz m b) ?_ λs N=>?_
 .refine di b.aA.length (λi w=>w=(i:Int)/\(∀c a,c<i->b.aA[c]?=c7 a->((1<=a.aw.length/\a.aw.length<=12)/\a.aH.length=a.aw.length/\lz a.aw)/\dQ a.aw=dQ t.aw/\(∀x,x∈a.aH->jK m x)/\∀d,0<c->b.aA[c -1]?=c7 d->iH d.aw a.aw<0)) _ (λi w A g=>?_) (λw g=>?_) _ ⟨rfl,λc a j=>by omega⟩
  .obtain⟨rfl,g⟩:=g;have f:b.aA[i]?=c7 b.aA[i]:=c6 A;have B:=dd A;generalize b.aA[i]=a at f B;have r:=u.2 a B;unfold Fm;rw[aC,bn,f,aa,cF,aa,O6 r.tg,aa,lA,ew rfl,fh rfl,aa];refine aV (λ_=>ae trivial) (λo=>?_)
   unfold qK;rw[aa,Iy r.tg,aa,GV (by show(dQ a.aw).length<=_;rw[uP];have:=jZ r.tg;omega),aa,de];refine aV (λp=>?_) (λ_=>ae trivial)
   have S:Ok (bif c5 (0<(i:Int)) then(aj b.aA (c3 c4 ((i:Int) -1))).bind λF=>(sL LC F.aw a.aw).bind λG=>c7 (c5 (0<=G)) else c7 false) λv=>v=false->∀d,0<i->b.aA[i -1]?=c7 d->iH d.aw a.aw<0:=by
    refine aV (λL=>?_) (λL=>ae λ_ d V=>by omega)
    have C:b.aA[i -1]?=c7 (b.aA[i -1]'(by omega)):=c6 (by omega);have y:=dd (show i -1<b.aA.length by omega);generalize b.aA[i -1]'(by omega)=v at C y;rw[aJ,show(i:Int) -1=((i -1:Nat):Int) by omega,bn,C,aa,PW (u.2 v y).tg,aa];refine ae λM d _ e=>?_
    injection e with e
    subst e;have:=of_decide_eq_false M;omega
   refine aD S λX U=>?_
   refine dy (λ_=>ae trivial) (λT=>?_)
   refine aD (ah8 (l:=a.aH) (m:=m) (by show a.aH.length<=_;have:=jZ r.wh;omega)) λW D=>?_
   refine dy (λ_=>ae trivial) (λH=>?_)
   rw[aJ];refine ae ⟨rfl,λc d j e=>?_⟩
   by_cases k:c=i
   .subst k;rw[f] at e;injection e with e
    subst e;refine⟨⟨?_,?_,dv λh=>o (.inr (.inr h))⟩,p,D H,λd P I=>U T d P I⟩
    .have:1<=(a.aw.length:Int)/\(a.aw.length:Int)<=12:=dv λh=>o (.inl h)
     omega
    .have:(a.aH.length:Int)=a.aw.length:=dv λh=>o (.inr (.inl h))
     omega
   .exact g c d (by omega) e
  .obtain⟨rfl,g⟩:=g;unfold Fm;rw[aG];have q:∀a,a∈b.aA->∃c,c<b.aA.length/\b.aA[c]?=c7 a:=λa f=>by
    obtain⟨c,j,rfl⟩:=e5.1 f;exact⟨c,j,c6 j⟩
   refine ae ⟨R,by omega,λa f=>?_,λa d f e=>?_,λi a d o p=>?_,λa f=>?_⟩
   .obtain⟨c,j,k⟩:=q a f;exact(g c a j k).1
   .obtain⟨c,j,k⟩:=q a f;obtain⟨E,O,K⟩:=q d e;exact(g c a j k).2.1.trans (g E d O K).2.1.symm
   .exact(g (i+1) d (dt.1 p).1 p).2.2.2 a (by omega) (by rw[show i+1 -1=i by omega];exact o)
   .obtain⟨c,j,k⟩:=q a f;exact(g c a j k).2.2.1
 .cases s with
  |inl _=>exact ae λn=>by cases n
  |inr _=>exact ae λ_=>N
def mz.lt{m:ak}{b:aL}(h:mz m b):∀{i a:Nat} {w c:ay},i<a->b.aA[i]?=c7 w->b.aA[a]?=c7 c->iH w.aw c.aw<0:=by
 intro i a w c s k d
 induction a generalizing c with
 |zero=>omega
 |succ a l=>
  have n:a<b.aA.length:=by have:=(dt.1 d).1;omega
  have e:=c6 n;have j:=h.asc a _ c e d
  by_cases o:i=a
  .subst o;rw[k] at e;injection e with e
   rw[e];exact j
  .exact NH _ _ _ (l (by omega) e) j
def Fb{f:Type}[DecidableEq f]:∀(c b:List f),c.Nodup->(∀a,a∈c->a∈b)->c.length<=b.length
 |[],b,_,_=>p0 _
 |a::c,b,d,g=>by
  rw[List.nodup_cons] at d;have j:=Fb c (b.erase a) d.2 λi e=>(List.mem_erase_of_ne (λk=>d.1 (by rw[<-k];exact e))).2 (g i (by simp[e]))
  have h:=g a (by simp);rw[List.length_erase_of_mem h] at j;have:=List.length_pos_of_mem h;simp only[ez];omega
def aqu(a h:List Int)(o:a.length<=3)(f:h.Perm a):h∈[[a.getD 0 0,a.getD 1 0,a.getD 2 0].take a.length,[a.getD 0 0,a.getD 2 0,a.getD 1 0].take a.length,[a.getD 1 0,a.getD 0 0,a.getD 2 0].take a.length,[a.getD 1 0,a.getD 2 0,a.getD 0 0].take a.length,[a.getD 2 0,a.getD 0 0,a.getD 1 0].take a.length,[a.getD 2 0,a.getD 1 0,a.getD 0 0].take a.length]:=by
 match a,o with
 |[],_=>rw[f.eq_nil];simp
 |[d],_=>rw[hU.1 f];simp
 |[d,b],_=>
  have j:=f.length_eq
  match h,j with
  |[c,e],_=>
   have l:c=d\/c=b:=by simpa using f.mem_iff.1 (show c∈[c,e] by simp)
   rcases l with rfl |rfl
   .have:=hU.1 (hD f);injection this with this
    subst this;simp
   .have:=hU.1 (hD (f.trans (k6 c d [])));injection this with this
    subst this;simp
 |[d,b,g],_=>
  have j:=f.length_eq
  match h,j with
  |[c,e,z],_=>
   have l:c=d\/c=b\/c=g:=by simpa using f.mem_iff.1 (show c∈[c,e,z] by simp)
   have i:∀p q:Int,[e,z].Perm [p,q]->(e=p/\z=q)\/(e=q/\z=p):=λp q k=>by
    have m:e=p\/e=q:=by simpa using k.mem_iff.1 (show e∈[e,z] by simp)
    rcases m with rfl |rfl
    .have:=hU.1 (hD k);injection this with this
     exact .inl ⟨rfl,this⟩
    .have:=hU.1 (hD (k.trans (k6 e p [])));injection this with this
     exact .inr ⟨rfl,this⟩
   rcases l with rfl |rfl |rfl
   .rcases i b g (hD f) with⟨rfl,rfl⟩ |⟨rfl,rfl⟩ <;> simp
   .rcases i d g (hD (f.trans (k6 c d [g]))) with⟨rfl,rfl⟩ |⟨rfl,rfl⟩ <;> simp
   .have n:[d,b,c].Perm [c,d,b]:=((k6 c b []).cons d).trans (k6 c d [b]);rcases i d b (hD (f.trans n)) with⟨rfl,rfl⟩ |⟨rfl,rfl⟩ <;> simp
def F9{a b:List Int}(c:dQ a=dQ b):a.Perm b:=(uK a).symm.trans (c▸uK b)
def mz.Mp{m:ak}{b:aL}(h:mz m b){a:ay}(h0:a∈b.aA)(k:a.aw.length<=3):b.aA.length<=6:=by
 have e:(b.aA.map (·.aw)).length=b.aA.length:=eE _;rw[<-e];refine hz (Fb _ _ ?_ (λo j=>?_)) (Nat.le_of_eq (?_:List.length [[a.aw.getD 0 0,a.aw.getD 1 0,a.aw.getD 2 0].take a.aw.length,[a.aw.getD 0 0,a.aw.getD 2 0,a.aw.getD 1 0].take a.aw.length,[a.aw.getD 1 0,a.aw.getD 0 0,a.aw.getD 2 0].take a.aw.length,[a.aw.getD 1 0,a.aw.getD 2 0,a.aw.getD 0 0].take a.aw.length,[a.aw.getD 2 0,a.aw.getD 0 0,a.aw.getD 1 0].take a.aw.length,[a.aw.getD 2 0,a.aw.getD 1 0,a.aw.getD 0 0].take a.aw.length]=6))
 .refine h7.2 λi n hi c l he=>?_
  rw[eE] at hi c;rw[oi,oi] at he;have:=h.lt l (c6 hi) (c6 c);rw[he,SV] at this;omega
 .obtain⟨w,d,rfl⟩:=j9.1 j;exact aqu _ _ k (F9 (h.perm w a d h0))
 .rfl
def IH(f:aM->aM->Prop)(d:Int)(a e:ay):Prop:=∃(i:Nat) (b c:aM),a.aw[i]?=c7 d/\a.aH[i]?=c7 b/\f b c/\e=⟨a.aw,a.aH.set i c⟩
structure kz (R:aM->aM->Prop) (C:aM->Prop) (tag:Int) (l l':List ay):Prop where
 len:l'.length<=l.length
 from_:∀w',w'∈l'->∃w,w∈l/\IH R tag w w'
 b9:∀w,w∈l->(∃w',w'∈l'/\IH R tag w w')\/∃(i:Nat) (x:aM),w.aw[i]?=c7 tag/\w.aH[i]?=c7 x/\C x
def kz.more{j:aM->aM->Prop}{C:aM->Prop}{tag:Int}{n l:List ay}(h:kz j C tag n l){w d:ay}(m:IH j tag w d):kz j C tag (n++[w]) (l++[d]):=by
 refine⟨by have:=h.len;simp;omega,λv a=>?_,λv a=>?_⟩
 .rcases e4.1 a with a |a
  .obtain⟨c,e,k⟩:=h.from_ v a;exact⟨c,by simp[e],k⟩
  .rw[e0] at a;subst a;exact⟨w,by simp,m⟩
 .rcases e4.1 a with a |a
  .rcases h.b9 v a with⟨c,e,k⟩ |o
   .exact .inl ⟨c,by simp[e],k⟩
   .exact .inr o
  .rw[e0] at a;subst a;exact .inl ⟨d,by simp,m⟩
def kz.drop{d:aM->aM->Prop}{C:aM->Prop}{tag:Int}{e c:List ay}(h:kz d C tag e c){w:ay}{i:Nat}{x:aM}(m:w.aw[i]?=c7 tag)(k:w.aH[i]?=c7 x)(o:C x):kz d C tag (e++[w]) c:=by
 refine⟨by have:=h.len;simp;omega,λv a=>?_,λv a=>?_⟩
 .obtain⟨j,l,n⟩:=h.from_ v a;exact⟨j,by simp[l],n⟩
 .rcases e4.1 a with a |a
  .exact h.b9 v a
  .rw[e0] at a;subst a;exact .inr ⟨i,x,m,k,o⟩
structure oG (R:aM->aM->Prop) (C:aM->Prop) (m:ak) (tag:Int) (b b':aL):Prop where
 v:mz m b
 ne:b'.aA≠[]
 n:kz R C tag b.aA b'.aA
def OX{b:List Int}{a:Int}(d:a∈b):∃i:Nat,gg (λc=>c5 (a=c)) b=(i:Int)/\b[i]?=c7 a:=by
 have h0:0<=gg (λc=>c5 (a=c)) b:=Aw.2 ⟨a,d,decide_eq_true rfl⟩;obtain⟨i,h,f,e,g,_⟩:=HN h0;refine⟨i,f,?_⟩
 rw[e,of_decide_eq_true g]
def iE{b:Type}{a:List b}{i:Nat}{c:b}(d:a[i]?=c7 c):a.take (i+1)=a.take i++[c]:=by
 rw[o3,d];rfl
def LG(f:ak)(b:aL)(l:Int)(e:List Int)(a g:Int)(B:gF b)(W:Fit e)(V:Fit f.ai):Ok (CS LC f b l e a g) λq=>(q.2=0/\oG (λc d=>d=c\/lG f c e a g d) (λc=>c.aa0<=a/\∀p,p∈e->g<fn c.an p) f l b q.1)\/(q.2≠0/\q.1=b):=by
 unfold CS;refine aD (Q:=λr=>(r.2.2.2.2.2.2=0/\oG (λc d=>d=c\/lG f c e a g d) (λc=>c.aa0<=a/\∀p,p∈e->g<fn c.an p) f l b r.2.2.2.2.2.1)\/(r.2.2.2.2.2.2≠0/\r.2.2.2.2.2.1=b)) ?_ λr X=>ae X
 unfold I3;refine aD (vB f b B) λv ad=>?_
 rw[de];refine dy (λJ=>?_) (λ_=>ae (.inr ⟨by simp,rfl⟩))
 have y:=ad J;have ai:=y.num;have h0:b.aA[0]?=c7 (b.aA[0]'(by omega)):=c6 (by omega);have z:=dd (show 0<b.aA.length by omega);generalize b.aA[0]'(by omega)=w at h0 z;have T:aj b.aA 0=c7 w:=by rw[show(0:Int)=((0:Nat):Int) from rfl,bn];exact h0
 rw[T,aa,contains_eq (by show w.aw.length<=_;have:=jZ (B.2 w z).tg;omega),aa,de];refine aV (λK=>?_) (λ_=>ae (.inr ⟨by simp,rfl⟩))
 refine aD (Q:=λj=>match j with
  | .inl j=>j.2.2.2.2.2.2≠0/\aL.mk j.2.2.2.2.2.1=b
  | .inr j=>kz (λc d=>d=c\/lG f c e a g d) (λc=>c.aa0<=a/\∀p,p∈e->g<fn c.an p) l b.aA j.2.2.2.2.2) ?_ λj F=>?_
 .refine di b.aA.length (λi C=>∃out,C=(f.ai,f.af,e,a,g,out,(i:Int))/\kz (λc d=>d=c\/lG f c e a g d) (λc=>c.aa0<=a/\∀p,p∈e->g<fn c.an p) l (b.aA.take i) out) _ (λi C G A=>?_) (λC A=>?_) _ ⟨[],rfl,⟨by simp,λag n=>(by cases n),λh n=>(by simp at n)⟩⟩
  .obtain⟨out,rfl,s⟩:=A;have u:b.aA[i]?=c7 b.aA[i]:=c6 G;have x:=dd G;generalize b.aA[i]=h at u x;have Y:=B.2 h x;have al:=y.len h x;have O:l∈h.aw:=(F9 (y.perm h w x z)).mem_iff.2 K;obtain⟨m,N,D⟩:=OX O;have R:m<h.aH.length:=by have:=(dt.1 D).1;omega
   have o:h.aH[m]?=c7 h.aH[m]:=c6 R;generalize h.aH[m]=c at o;have ah:out.length<=24:=by have:=s.len;rw[ea] at this;omega
   dsimp only;unfold Gz;rw[aC,bn,u,aa,Bb (by show h.aw.length<=_;omega),N,aa,zK Y,aa];dsimp only;rw[bn,o,aa,dk,o,aa];unfold JT;obtain⟨q,P,ab⟩:=afE f c e a g W V;have Z:yX LC (ak.mk f.ai f.af) c e a g=c7 q:=P;rw[Z,aa,aa];dsimp only;simp only[aa];have fin:∀d,(d=c\/lG f c e a g d)->kz (λc d=>d=c\/lG f c e a g d) (λc=>c.aa0<=a/\∀p,p∈e->g<fn c.an p) l (b.aA.take (i+1)) (out++[ay.mk h.aw (h.aH.set m d)]):=λd I=>by
    rw[iE u];exact s.more ⟨m,c,d,D,o,I,rfl⟩
   have H:∀t,t=h.aH.set m q.1\/t=h.aH.set m c->(q.1=c\/lG f c e a g q.1)->kz (λc d=>d=c\/lG f c e a g d) (λc=>c.aa0<=a/\∀p,p∈e->g<fn c.an p) l (b.aA.take (i+1)) (out++[ay.mk h.aw t]):=λt U M=>by
    rcases U with rfl |rfl
    .exact fin _ M
    .exact fin _ (.inl rfl)
   rcases ab with⟨k,af⟩ |⟨k,E,ac,S⟩ |⟨k,E⟩
   .rw[k];simp only[aa,decide_eq_true,decide_eq_false,Int.reduceEq,decide_false,decide_true,cond_true,cond_false,ft,ei];rw[dm (by decide) (by omega),aa,aJ];exact ae ⟨_,rfl,H _ (.inl rfl) (.inr af)⟩
   .rw[k];simp only[aa,Int.reduceEq,decide_false,decide_true,cond_true,cond_false,ft,ei];rw[aJ];refine ae ⟨_,rfl,?_⟩
    rw[iE u];exact s.drop D o ⟨ac,S⟩
   .rcases k with k |k |k
    .rw[k];simp only[aa,Int.reduceEq,decide_false,decide_true,cond_true,cond_false,ft,ei];exact ae ⟨by simp,rfl⟩
    .rw[k];simp only[aa,Int.reduceEq,decide_false,decide_true,cond_true,cond_false,ft,ei];exact ae ⟨by simp,rfl⟩
    .rw[k];simp only[aa,Int.reduceEq,decide_false,decide_true,cond_true,cond_false,ft,ei];rw[dm (by decide) (by omega),aa,aJ];exact ae ⟨_,rfl,H _ (.inr (ou o).symm) (.inl E)⟩
  .obtain⟨out,rfl,s⟩:=A;dsimp only;unfold Gz;rw[aG];rw[gy] at s;exact ae s
 .cases j with
  |inl j=>exact ae (.inr F)
  |inr j=>
   dsimp only[ei];refine aV (λ_=>ae (.inr ⟨by simp,rfl⟩)) (λL=>ae (.inl ⟨rfl,y,λn=>L ?_,F⟩))
   have n:j.2.2.2.2.2=[]:=n;rw[n];rfl
def Sj(e:ak)(b:aL)(n:Int)(j:List Int)(a l k:Int)(B:gF b)(R:Fit j)(P:Fit e.ai):Ok (Bq LC e b n j a l k) λq=>(q.2=0/\oG (λc d=>d=c\/∃h,og e c j a l k d h) (λ_=>False) e n b q.1)\/(q.2≠0/\q.1=b):=by
 unfold Bq;refine aD (Q:=λr=>(r.2.2.2.2.2.2.2=0/\oG (λc d=>d=c\/∃h,og e c j a l k d h) (λ_=>False) e n b r.2.2.2.2.2.2.1)\/(r.2.2.2.2.2.2.2≠0/\r.2.2.2.2.2.2.1=b)) ?_ λr S=>ae S
 unfold Hu;refine aD (vB e b B) λv W=>?_
 rw[de];refine dy (λH=>?_) (λ_=>ae (.inr ⟨by simp,rfl⟩))
 have x:=W H;have ac:=x.num;have h0:b.aA[0]?=c7 (b.aA[0]'(by omega)):=c6 (by omega);have y:=dd (show 0<b.aA.length by omega);generalize b.aA[0]'(by omega)=u at h0 y;have O:aj b.aA 0=c7 u:=by rw[show(0:Int)=((0:Nat):Int) from rfl,bn];exact h0
 rw[O,aa,contains_eq (by show u.aw.length<=_;have:=jZ (B.2 u y).tg;omega),aa,de];refine aV (λI=>?_) (λ_=>ae (.inr ⟨by simp,rfl⟩))
 refine aD (Q:=λg=>match g with
  | .inl g=>g.2.2.2.2.2.2.2≠0/\aL.mk g.2.2.2.2.2.2.1=b
  | .inr g=>kz (λc d=>d=c\/∃h,og e c j a l k d h) (λ_=>False) n b.aA g.2.2.2.2.2.2) ?_ λg D=>?_
 .refine di b.aA.length (λi C=>∃out,C=(e.ai,e.af,j,a,l,k,out,(i:Int))/\kz (λc d=>d=c\/∃h,og e c j a l k d h) (λ_=>False) n (b.aA.take i) out) _ (λi C E A=>?_) (λC A=>?_) _ ⟨[],rfl,⟨by simp,λY o=>(by cases o),λf o=>(by simp at o)⟩⟩
  .obtain⟨out,rfl,t⟩:=A;have z:b.aA[i]?=c7 b.aA[i]:=c6 E;have w:=dd E;generalize b.aA[i]=f at z w;have T:=B.2 f w;have ad:=x.len f w;have L:n∈f.aw:=(F9 (x.perm f u w y)).mem_iff.2 I;obtain⟨p,K,F⟩:=OX L;have N:p<f.aH.length:=by have:=(dt.1 F).1;omega
   have s:f.aH[p]?=c7 f.aH[p]:=c6 N;generalize f.aH[p]=c at s;have Z:out.length<=24:=by have:=t.len;rw[ea] at this;omega
   dsimp only;unfold Fl;rw[aC,bn,z,aa,Bb (by show f.aw.length<=_;omega),K,aa,zK T,aa];dsimp only;rw[bn,s,aa,dk,s,aa];unfold Io;obtain⟨q,M,V⟩:=aaS e c j a l k R P;have U:wV LC (ak.mk e.ai e.af) c j a l k=c7 q:=M;rw[U,aa,aa];dsimp only;simp only[aa];have fin:∀d,(d=c\/∃h,og e c j a l k d h)->kz (λc d=>d=c\/∃h,og e c j a l k d h) (λ_=>False) n (b.aA.take (i+1)) (out++[ay.mk f.aw (f.aH.set p d)]):=λd G=>by
    rw[iE z];exact t.more ⟨p,c,d,F,s,G,rfl⟩
   rcases V with⟨m,X⟩ |⟨m,ab⟩
   .rw[m];simp only[aa,Int.reduceEq,decide_false,decide_true,cond_true,cond_false,ft,ei];rw[dm (by decide) (by omega),aa,aJ];exact ae ⟨_,rfl,fin _ (X.elim .inr .inl)⟩
   .rcases m with m |m |m
    .rw[m];simp only[aa,Int.reduceEq,decide_false,decide_true,cond_true,cond_false,ft,ei];exact ae ⟨by simp,rfl⟩
    .rw[m];simp only[aa,Int.reduceEq,decide_false,decide_true,cond_true,cond_false,ft,ei];exact ae ⟨by simp,rfl⟩
    .rw[m];simp only[aa,Int.reduceEq,decide_false,decide_true,cond_true,cond_false,ft,ei];rw[dm (by decide) (by omega),aa,aJ];refine ae ⟨_,rfl,?_⟩
     have:=fin c (.inl rfl);rw[ou s] at this;exact this
  .obtain⟨out,rfl,t⟩:=A;dsimp only;unfold Fl;rw[aG];rw[gy] at t;exact ae t
 .cases g with
  |inl g=>exact ae (.inr D)
  |inr g=>
   dsimp only[ei];refine aV (λ_=>ae (.inr ⟨by simp,rfl⟩)) (λJ=>ae (.inl ⟨rfl,x,λo=>J ?_,D⟩))
   have o:g.2.2.2.2.2.2=[]:=o;rw[o];rfl
def swap_perm{d:Type}{a:List d}{i e:Nat}{c b:d}(j:a[i]?=c7 c)(f:a[e]?=c7 b):((a.set i b).set e c).Perm a:=by
 obtain⟨h,rfl⟩:=dt.1 j;obtain⟨g,rfl⟩:=dt.1 f;exact List.set_set_perm h g
def aaP(e:List ay)(v:∀p,p∈e->Sm p.aw)(C:e.length<=19):Ok (xn LC e 0 (e.length:Int)) λr=>r.Perm e:=by
 unfold xn;rw[aJ];refine aD (Q:=λr=>r.Perm e) ?_ λr k=>ae k
 refine oa (λb:List ay×Int=>b.1.Perm e/\1<=b.2) (λb=>(20 -b.2).toNat) _ (λb j=>?_) _ ⟨.refl _,by simp⟩
 obtain⟨aK,i⟩:=b;obtain⟨d,w⟩:=j;dsimp only at d w⊢;unfold Sx;refine aV (λq=>?_) (λ_=>ae d)
 refine aD (Q:=λr=>r.Perm e) ?_ λr k=>?_
 .refine oa (λb:List ay×Int=>b.1.Perm e/\0<=b.2/\b.2<(e.length:Int)) (λb=>b.2.toNat) _ (λb j=>?_) _ ⟨d,by show(0:Int)<=i;omega,q⟩
  obtain⟨c,a⟩:=b;obtain⟨d,z,s⟩:=j;dsimp only at d z s⊢;have B:=d.length_eq;unfold Mg
  by_cases o:0<a
  rotate_left
  .rw[aG o];exact ae d
  have h:c[a.toNat]?=c7 (c[a.toNat]'(by omega)):=c6 (by omega);have f:c[(a -1).toNat]?=c7 (c[(a -1).toNat]'(by omega)):=c6 (by omega);have m:=dd (show a.toNat<c.length by omega);generalize c[a.toNat]'(by omega)=l at h m;generalize c[(a -1).toNat]'(by omega)=g at f;have u:aj c a=c7 l:=by unfold aj;rw[if_pos (by omega)];exact h
  have t:aj c (a -1)=c7 g:=by unfold aj;rw[if_pos (by omega)];exact f
  have x:=v l (d.mem_iff.1 m);rw[aC o,aJ (n:=a -1),u,aa,h,aa,t,aa,f,aa];unfold IK;rw[PW x];simp only[aa];refine aV (λ_=>?_) (λ_=>ae d)
  have y:(a -1).toNat<(c.set a.toNat g).length:=by rw[dT];omega
  have A:aj (c.set a.toNat g) (a -1)=c7 ((c.set a.toNat g)[(a -1).toNat]):=qC (by omega) (by rw[dT];omega);rw[A,aa,c6 y,aa];refine ae ⟨⟨(swap_perm h f).trans d,by show 0<=a -1;omega,by show a -1<_;omega⟩,?_⟩
  show(a -1).toNat<a.toNat
  omega
 .rw[aJ];refine ae ⟨⟨k,by show 1<=i+1;omega⟩,?_⟩
  show(20 - (i+1)).toNat<(20 -i).toNat
  omega
def aoi(a:List ay)(h:∀d,d∈a->Sm d.aw)(c:a.length<=19):Ok (uv LC a) λr=>r.Perm a:=by
 unfold uv FQ JY GP Je;rw[pr (by decide) (cX (n:=19) c (by decide)),aa,aa];have i:bO (λb:List ay×Int×Int=>zB LC (a.length:Int) b.1 b.2.1 b.2.2) (a,0,20)=c7 (a,0):=fZ (by dsimp only;unfold zB;rw[aG]);rw[show LC.loop (λb:List ay×Int×Int=>zB LC (a.length:Int) b.1 b.2.1 b.2.2) (a,0,20)=_ from i,aa];dsimp only;obtain⟨r,f,e⟩:=aaP a h c;rw[f,aa];have g:bO (λb:Int=>KH LC (a.length:Int) b) 20=c7 ():=fZ (by unfold KH;rw[aG]);rw[g];simp only[aa];exact ae e
def j0(d c:Nat)(b:ay):Prop:=b.aH.length=d/\∀a,a∈b.aH->a.an.length=c
def Over(e:Nat)(d c:ay):Prop:=c.aw=d.aw/\∀(i:Nat) a b,d.aH[i]?=c7 a->c.aH[i]?=c7 b->a.aa0<=b.aa0/\∀p,0<=p->p<(e:Int)->fn b.an p<=fn a.an p
def Over.refl(np:Nat)(w:ay):Over np w w:=⟨rfl,λi x c h a=>by rw[h] at a;injection a with a;subst a;exact⟨ey _,λ_ _ _=>ey _⟩⟩
structure rZ (n np:Nat) (l out:List ay):Prop where
 a:∀w,w∈l->∃w',w'∈out/\Over np w w'
 b:∀Pr:aM->Prop,(∀x y,x.an.length=np->y.an.length=np->Pr x->Pr y->Pr (ib x y))->(∀w,w∈l->∀x,x∈w.aH->Pr x)->∀w',w'∈out->∀x,x∈w'.aH->Pr x
 c:∀w',w'∈out->j0 n np w'/\∃w,w∈l/\w'.aw=w.aw
 d:out.length<=l.length
 e:l≠[]->out≠[]
def oB(a b:ay):ay:=⟨a.aw,ef ib a.aH b.aH⟩
def acE{c b:aM}{a:Nat}(d:c.an.length=a)(e:b.an.length=a):(ib c b).an.length=a:=by
 show(ef min c.an b.an).length=a
 rw[ga];omega
def ake{a d:Nat}{c b:ay}(f:j0 a d c)(e:j0 a d b):j0 a d (oB c b):=by
 refine⟨by show(ef ib c.aH b.aH).length=a;rw[ga,f.1,e.1];omega,λg j=>?_⟩
 obtain⟨i,h,rfl⟩:=e5.1 (show g∈ef ib c.aH b.aH from j);rw[ga] at h;rw[hS];exact acE (f.2 _ (dd (by omega))) (e.2 _ (dd (by omega)))
def FB{b d:ay}{i:Nat}{c:aM}(a:(oB b d).aH[i]?=c7 c):∃f e,b.aH[i]?=c7 f/\d.aH[i]?=c7 e/\c=ib f e:=by
 have a:(ef ib b.aH d.aH)[i]?=c7 c:=a;obtain⟨h,g⟩:=dt.1 a;rw[ga] at h;rw[hS] at g;exact⟨_,_,c6 (by omega),c6 (by omega),g.symm⟩
def amz{n b:Nat}{u c e:ay}(o:j0 n b c)(l:j0 n b e)(t:c.aw=e.aw):(Over b u c->Over b u (oB c e))/\Over b e (oB c e):=by
 refine⟨λs=>⟨s.1,λi d v h g=>?_⟩,⟨t,λi d v h g=>?_⟩⟩
 .obtain⟨p,q,f,a,rfl⟩:=FB g;obtain⟨x,w⟩:=s.2 i d p h f;have j:=o.2 p (fC f);have k:=l.2 q (fC a);refine⟨by show d.aa0<=max p.aa0 q.aa0;omega,λm h0 r=>?_⟩
  rw[PL (j.trans k.symm) h0 (by omega)];have:=w m h0 r;omega
 .obtain⟨p,q,f,a,rfl⟩:=FB g;have j:=o.2 p (fC f);have k:=l.2 q (fC a);rw[h] at a;injection a with a
  subst a;refine⟨by show d.aa0<=max p.aa0 d.aa0;omega,λm h0 r=>?_⟩
  rw[PL (j.trans k.symm) h0 (by omega)];omega
def agQ{n e:Nat}{a b:ay}(v:n<=100)(m:e<=1000000)(g:j0 n e a)(c:j0 n e b):bO (λd:List aM×Int=>qR LC b.aH d.1 d.2) (a.aH,0)=c7 (ef ib a.aH b.aH):=by
 have o:(ef ib a.aH b.aH).length=n:=by rw[ga,g.1,c.1];omega
 have u:=nV (f:=λd:List aM×Int=>qR LC b.aH d.1 d.2) n (λi=>((ef ib a.aH b.aH).take i++a.aH.drop i,(i:Int))) (ef ib a.aH b.aH) (λi l=>?_) (by
  dsimp only;unfold qR;rw[aG (by rw[c.1];omega),hM (by omega),ie (by rw[g.1];omega),p4])
 .simpa using u
 .dsimp only;unfold qR;have h:i<a.aH.length:=by rw[g.1];exact l
  have j:i<b.aH.length:=by rw[c.1];exact l
  have k:((ef ib a.aH b.aH).take i).length=i:=by rw[ea,o];omega
  have r:((ef ib a.aH b.aH).take i++a.aH.drop i)[i]?=c7 a.aH[i]:=by
   rw[eH (by omega),k,j8,gb h];rfl
  have s:=g.2 _ (dd h);have t:=c.2 _ (dd j);rw[aC (by rw[c.1];omega),bn,r,aa,bn,c6 j,aa,join_eq (s.trans t.symm) (cX (n:=e) (by omega) m),aa,aJ];have q:(ef ib a.aH b.aH)[i]?=c7 (ib a.aH[i] b.aH[i]):=by
   rw[c6 (by omega),hS]
  have p:((ef ib a.aH b.aH).take i++a.aH.drop i).set (i:Int).toNat (ib a.aH[i] b.aH[i])=(ef ib a.aH b.aH).take (i+1)++a.aH.drop (i+1):=by
   rw[dk,k8 _ _ (by omega),k,j8,gb h,hX,iE q,hB]
   rfl
  dsimp only;rw[p]
  rfl
def QQ{n np:Nat}(R:n<=100)(S:np<=1000000)(B:List ay)(a:∀c,c∈B->j0 n np c/\Sm c.aw)(ab:B.length<=19):Ok (yK LC B) (rZ n np B):=by
 unfold yK;refine aD (aoi B (λc g=>(a c g).2) ab) λo r=>?_
 have am:=r.length_eq;have Y:∀c,c∈o->j0 n np c/\Sm c.aw:=λc g=>a c (r.mem_iff.1 g)
 have ai:∀c,j0 n np c->Sm c.aw->tz c:=λc e F=>⟨F,cX (n:=100) (by rw[e.1];exact R) (by decide),λt s=>cX (n:=np) (by rw[e.2 t s];omega) S⟩
 refine alt (Q:=rZ n np o) ?_ λout e=>⟨λc g=>e.a c (r.mem_iff.2 g),λx m l=>e.b x m λc g=>l c (r.mem_iff.1 g),λE y=>?_,by have:=e.d;omega,λU=>e.e λaf=>U ?_⟩
 rotate_left
 .obtain⟨m,c,l,W⟩:=e.c E y;exact⟨m,c,r.mem_iff.1 l,W⟩
 .rw[af] at r;exact List.nil_perm.1 r
 refine di o.length (λi K=>∃out,K=(out,(i:Int))/\rZ n np (o.take i) out/\∀c,c∈out->Sm c.aw) _ (λi K O G=>?_) (λK G=>?_) _ ⟨[],rfl,⟨λc g=>(by simp at g),λ_ _ _ E y=>(by cases y),λE y=>(by cases y),by simp,λe=>(by simp at e)⟩,λc g=>(by cases g)⟩
 .obtain⟨out,rfl,h,z⟩:=G;have g:o[i]?=c7 o[i]:=c6 O;have P:=dd O;generalize o[i]=c at g P;obtain⟨w,N⟩:=Y c P;have al:out.length<=19:=by have:=h.d;rw[ea] at this;omega
  dsimp only;unfold lZ;rw[aC,bn,g,aa,iE g,aJ (n:=(i:Int)+1)];have new:Ok ((oM LC c).bind λak=>(bj 48 out [ak]).bind λout=>c7 (m0 (out,(i:Int)+1))) λd:(List ay×Int)⊕List ay=>match d with
   | .inl T=>∃out,T=(out,((i+1:Nat):Int))/\rZ n np (o.take i++[c]) out/\∀c,c∈out->Sm c.aw
   | .inr b=>rZ n np o b:=by
   rw[Tz (ai c w N),aa,dm (by decide) (by omega),aa];refine ae ⟨_,rfl,⟨λu a=>?_,λx m l u a t s=>?_,λu a=>?_,?_,λ_=>by simp⟩,λu a=>?_⟩
   .rcases e4.1 a with a |a
    .obtain⟨v,f,j⟩:=h.a u a;exact⟨v,by simp[f],j⟩
    .rw[e0] at a;subst a;exact⟨u,by simp,Over.refl _ _⟩
   .rcases e4.1 a with a |a
    .exact h.b x m (λv A=>l v (by simp[A])) u a t s
    .rw[e0] at a;subst a;exact l u (by simp) t s
   .rcases e4.1 a with a |a
    .obtain⟨v,f,j,I⟩:=h.c u a;exact⟨v,f,by simp[j],I⟩
    .rw[e0] at a;subst a;exact⟨w,u,by simp,rfl⟩
   .have:=h.d;simp only[eo,ez,hL] at this⊢;omega
   .rcases e4.1 a with a |a
    .exact z u a
    .rw[e0] at a;subst a;exact N
  rcases List.eq_nil_or_concat out with Z |⟨init,d,k⟩
  .subst Z;rw[aG (by simp),aa];exact alt new λd k=>by cases d <;> exact k
  .rw[List.concat_eq_append] at k;have M:out.length=init.length+1:=by rw[k];simp
   have ad:aj out (c3 c4 ((out.length:Int) -1))=c7 d:=by
    rw[aJ,M,show((init.length+1:Nat):Int) -1=(init.length:Int) by omega];exact jg (rest:=[]) k
   have D:d∈out:=by rw[k];simp
   obtain⟨C,X,ah,ac⟩:=h.c d D;rw[aC,ad,aa,GV (by show d.aw.length<=_;have:=jZ (z d D);omega),aa];refine aV (λF=>?_) (λ_=>alt new λd k=>by cases d <;> exact k)
   rw[aa];refine c8 (agQ R S C w) ?_
   have ag:out.set (c3 c4 ((out.length:Int) -1)).toNat ({d with aH:=ef ib d.aH c.aH}:ay)=init++[oB d c]:=by
    rw[aJ,M,show(((init.length+1:Nat):Int) -1).toNat=init.length by omega,k,k8 _ _ (h8 _),j8]
    rfl
   rw[ag];have L:=λu=>amz (u:=u) C w F
   have J:∀{u:ay},u∈init++[oB d c]->u∈init\/u=oB d c:=λe=>by
    rcases e4.1 e with e |e
    .exact .inl e
    .exact .inr (by simpa using e)
   have H:∀u,u∈init->u∈out:=λu e=>by rw[k];simp[e]
   refine ae ⟨_,rfl,⟨λu a=>?_,λx m l u a t s=>?_,λu a=>?_,?_,λ_=>by simp⟩,λu a=>?_⟩
   .rcases e4.1 a with a |a
    .obtain⟨v,f,j⟩:=h.a u a;rw[k] at f;rcases e4.1 f with f |f
     .exact⟨v,by simp[f],j⟩
     .rw[e0] at f;subst f;exact⟨oB v c,by simp,(L u).1 j⟩
    .rw[e0] at a;subst a;exact⟨oB d u,by simp,(L u).2⟩
   .rcases J a with a |rfl
    .exact h.b x m (λv A=>l v (by simp[A])) u (H u a) t s
    .obtain⟨an,V⟩:=hP.1 s;obtain⟨p,q,f,j,rfl⟩:=FB V;exact m p q (C.2 p (fC f)) (w.2 q (fC j)) (h.b x m (λv A=>l v (by simp[A])) d D p (fC f)) (l c (by simp) q (fC j))
   .rcases J a with a |rfl
    .obtain⟨v,f,j,I⟩:=h.c u (H u a);exact⟨v,f,by simp[j],I⟩
    .exact⟨ake C w,X,by simp[ah],ac⟩
   .have:=h.d;simp only[eo,ez,hL] at this⊢;omega
   .rcases J a with a |rfl
    .exact z u (H u a)
    .exact z d D
 .obtain⟨out,rfl,h,z⟩:=G;dsimp only;unfold lZ;rw[aG];rw[gy] at h;exact ae h
def kH(i b:Int)(a:List aM):List aM:=match a[i.toNat]? with |some c=>if b<c.aa0\/2147483648<b then a else a.set i.toNat ⟨b,c.an⟩ |none=>a
def rU(i a c:Int)(b:ay):ay:=⟨gL i a b.aw,kH a c (kH i c b.aH)⟩
def ID{i b:Int}{a:List aM}:(kH i b a).length=a.length:=by
 unfold kH
 split
 .split
  .rfl
  .rw[dT]
 .rfl
def F3{i d:Int}{j:List aM}{g:Nat}{b:aM}(a:(kH i d j)[g]?=c7 b):∃e,j[g]?=c7 e/\b.an=e.an/\e.aa0<=b.aa0/\(b.aa0=e.aa0\/b.aa0=d)/\((g:Int)=i->d<=2147483648->d<=b.aa0):=by
 unfold kH at a;cases c:j[i.toNat]? with
 |none=>
  rw[c] at a;refine⟨b,a,rfl,ey _,.inl rfl,λf=>?_⟩
  subst f;rw[dk] at c;rw[c] at a;cases a
 |some k=>
  rw[c] at a;dsimp only at a
  split at a
  .rename_i l;refine⟨b,a,rfl,ey _,.inl rfl,λf m=>?_⟩
   subst f;rw[dk] at c;rw[c] at a;injection a with a
   subst a;omega
  .rename_i l;rw[hI] at a
   split at a
   .rename_i h
    split at a
    .injection a with a
     subst a;refine⟨k,by rw[<-h];exact c,rfl,by show k.aa0<=d;omega,.inr rfl,λ_ _=>ey _⟩
    .cases a
   .rename_i h;exact⟨b,a,rfl,ey _,.inl rfl,λf=>absurd (by omega) h⟩
def NG{i c:Int}{a:List aM}(n:0<=i/\i<(a.length:Int))(m:∀b,b∈a->Sm b.an){l:Type}{h:List aM->Option l}:((aj a i).bind λ_=>(a[i.toNat]?).bind λk=>(xc LC k c).bind λj=>
 (bif c5 (j.2=0) then(aj a i).bind λ_=>(a[i.toNat]?).bind λ_=>c7 (a.set i.toNat j.1) else c7 a).bind h)=h (kH i c a):=by
 have e:a[i.toNat]?=c7 (a[i.toNat]'(by omega)):=c6 (by omega);have f:=dd (show i.toNat<a.length by omega);unfold kH;generalize a[i.toNat]'(by omega)=b at e f;have g:aj a i=c7 b:=by unfold aj;rw[if_pos n.1];exact e
 rw[g,e];simp only[aa];rw[acF (m b f),aa]
 by_cases d:c<b.aa0\/2147483648<c
 .rw[if_pos d,if_pos d];rfl
 .rw[if_neg d,if_neg d];rfl
structure AY (m:ak) (i j t:Int) (n np:Nat) (b b':aL):Prop where
 v:mz m b
 num:b'.aA.length<=24
 ix:(0<=i/\i<(n:Int))/\(0<=j/\j<(n:Int))/\i≠j/\0<=t/\t<=2147483648
 ex:∃l,rZ n np l b'.aA/\l≠[]/\(∀w,w∈b.aA->w∈l)/\(∀w x y,w∈b.aA->w.aH[i.toNat]?=c7 x->w.aH[j.toNat]?=c7 y->(∃p,p∈dz x t/\p∈dz y t)->rU i j t w∈l)/\∀u,u∈l->u∈b.aA\/∃w,w∈b.aA/\u=rU i j t w
def RM(N:ak)(b:aL)(i c h:Int){n np:Nat}(a3:n<=3)(aZ:np<=64)(B:gF b)(D:∀a,a∈b.aA->j0 n np a/\a.aw.length=n):Ok (yY LC N b i c h) λq=>(q.2=0/\AY N i c h n np b q.1)\/(q.2≠0/\q.1=b):=by
 unfold yY;refine aD (vB N b B) λv aE=>?_
 rw[de];refine dy (λaH=>?_) (λ_=>ae (.inr ⟨by simp,rfl⟩))
 have R:=aE aH;have a6:=R.num;have h0:b.aA[0]?=c7 (b.aA[0]'(by omega)):=c6 (by omega);have H:=dd (show 0<b.aA.length by omega);generalize b.aA[0]'(by omega)=V at h0 H;have aO:aj b.aA 0=c7 V:=by rw[show(0:Int)=((0:Nat):Int) from rfl,bn];exact h0
 have ay:=(D V H).2;have a4:=R.Mp H (by omega);rw[aO,aa,ay,aJ (n:=(n:Int) -1),cF,aa,cF,aa,fh (fh rfl),aa];refine aV (λ_=>ae (.inr ⟨by simp,rfl⟩)) (λaU=>?_)
 rw[cF,aa,de];refine aV (λag=>?_) (λ_=>ae (.inr ⟨by simp,rfl⟩))
 have P:0<=i/\i<(n:Int):=by omega
 have x:0<=c/\c<(n:Int):=by omega
 have av:i≠c:=by omega
 unfold Ke;rw[pr (by decide) B.1,aa];refine aD (Q:=λg=>g.length<=12/\(∀a,a∈b.aA->a∈g)/\(∀a k l,a∈b.aA->a.aH[i.toNat]?=c7 k->a.aH[c.toNat]?=c7 l->(∃p,p∈dz k h/\p∈dz l h)->rU i c h a∈g)/\∀e,e∈g->e∈b.aA\/∃a,a∈b.aA/\e=rU i c h a) ?_ λg aB=>?_
 .refine di b.aA.length (λm o=>∃g,o=(g,(m:Int))/\g.length<=6+m/\(∀a,a∈b.aA->a∈g)/\(∀a k l,a∈b.aA.take m->a.aH[i.toNat]?=c7 k->a.aH[c.toNat]?=c7 l->(∃p,p∈dz k h/\p∈dz l h)->rU i c h a∈g)/\∀e,e∈g->e∈b.aA\/∃a,a∈b.aA/\e=rU i c h a) _ (λm o y U=>?_) (λo U=>?_) _ ⟨b.aA,rfl,by omega,λa j=>j,λa k l j=>(by simp at j),λe j=>.inl j⟩
  .obtain⟨g,rfl,aF,w,t,G⟩:=U;have M:b.aA[m]?=c7 b.aA[m]:=c6 y;have E:=dd y;generalize b.aA[m]=a at M E;have u:=B.2 a E;obtain⟨aw,a2⟩:=D a E;have aX:=aw.1;have S:a.aH[i.toNat]?=c7 (a.aH[i.toNat]'(by omega)):=c6 (by omega);have K:a.aH[c.toNat]?=c7 (a.aH[c.toNat]'(by omega)):=c6 (by omega);have W:=dd (show i.toNat<a.aH.length by omega);have Z:=dd (show c.toNat<a.aH.length by omega);generalize a.aH[i.toNat]'(by omega)=k at S W;generalize a.aH[c.toNat]'(by omega)=l at K Z;have al:aj a.aH i=c7 k:=by unfold aj;rw[if_pos P.1];exact S
   have aP:aj a.aH c=c7 l:=by unfold aj;rw[if_pos x.1];exact K
   dsimp only;unfold H9;rw[aC,bn,M,aa,al,aa,aP,aa,Zn (u.fr k W) (u.fr l Z),aa,de,aJ (n:=(m:Int)+1),iE M]
   by_cases J:∃p,p∈dz k h/\p∈dz l h
   rotate_left
   .rw[aG J,aa];refine ae ⟨g,rfl,by omega,w,λe T L d r s I=>?_,G⟩
    rcases e4.1 d with d |d
    .exact t e T L d r s I
    .rw[e0] at d;subst d;rw[S] at r;rw[K] at s;injection r with r;injection s with s
     subst r s;exact absurd I J
   rw[aC J,Zo u,aa];have C:a.aw[i.toNat]?=c7 (a.aw[i.toNat]'(by omega)):=c6 (by omega);have F:a.aw[c.toNat]?=c7 (a.aw[c.toNat]'(by omega)):=c6 (by omega);have O:gL i c a.aw=(a.aw.set i.toNat (a.aw[c.toNat]'(by omega))).set c.toNat (a.aw[i.toNat]'(by omega)):=by unfold gL;rw[C,F]
   generalize a.aw[i.toNat]'(by omega)=az at C O;generalize a.aw[c.toNat]'(by omega)=A at F O;have aR:aj a.aw i=c7 az:=by unfold aj;rw[if_pos P.1];exact C
   have aI:aj a.aw c=c7 A:=by unfold aj;rw[if_pos x.1];exact F
   have ar:c.toNat<(a.aw.set i.toNat A).length:=by rw[dT];omega
   have aT:aj (a.aw.set i.toNat A) c=c7 ((a.aw.set i.toNat A)[c.toNat]):=qC x.1 (by rw[dT];omega);dsimp only;rw[aI,aa,F,aa,aR,aa,C,aa,aa,aa,aT,aa,c6 ar,aa];have aS:bO (λo:List aM×Int=>tC LC i c h o.1 o.2) (a.aH,0)=c7 (kH c h (kH i h a.aH)):=by
    refine akO (f:=λaf aq=>tC LC i c h af aq) (λb g=>if b then kH c h g else kH i h g) a.aH ?_ ?_ (λo=>?_)
    .unfold tC;rw[aC (by decide),show aj ([i,c]:List Int) 0=c7 i from rfl,aa];refine(NG (by omega) u.fr).trans ?_
     rfl
    .simp only[hY,if_false,if_true];unfold tC;rw[aC (by decide),show aj ([i,c]:List Int) 1=c7 c from rfl,aa];refine(NG (by rw[ID];omega) (λz ah=>?_)).trans ?_
     .obtain⟨q,aN⟩:=hP.1 ah;obtain⟨z0,au,ax,_⟩:=F3 aN;rw[ax];exact u.fr z0 (fC au)
     .rfl
    .unfold tC;rfl
   rw[aS];simp only[aa];rw[dm (by decide) (by omega),aa,aa, <-O];refine ae ⟨_,rfl,by simp;omega,λe j=>by simp[w e j],λe T L d r s I=>?_,λe d=>?_⟩
   .rcases e4.1 d with d |d
    .exact List.mem_append_left _ (t e T L d r s I)
    .rw[e0] at d;subst d;exact List.mem_append_right _ (by simp[rU])
   .rcases e4.1 d with d |d
    .exact G e d
    .rw[e0] at d;exact .inr ⟨a,E,d⟩
  .obtain⟨g,rfl,aF,w,t,G⟩:=U;dsimp only;unfold H9;rw[aG];rw[gy] at t;exact ae ⟨by omega,w,t,G⟩
 .obtain⟨a5,Y,ai,X⟩:=aB;have aK:∀a,a∈g->j0 n np a/\Sm a.aw:=λe d=>by
   rcases X e d with j |⟨a,j,rfl⟩
   .exact⟨(D e j).1,(B.2 e j).tg⟩
   .obtain⟨ab,a0⟩:=D a j;refine⟨⟨?_,λk an=>?_⟩,?_⟩
    .show(kH c h (kH i h a.aH)).length=n
     rw[ID,ID];exact ab.1
    .obtain⟨m,y⟩:=hP.1 an;obtain⟨a1,aQ,ap,_⟩:=F3 y;obtain⟨am,ac,aA,_⟩:=F3 aQ;rw[ap,aA];exact ab.2 am (fC ac)
    .show(gL i c a.aw).length<=1000000
     unfold gL
     split
     .rw[dT,dT];omega
     .omega
  refine aD (QQ (by omega) (by omega) g aK (by omega)) λout ao=>?_
  refine aV (λ_=>ae (.inr ⟨by simp,rfl⟩)) (λaY=>ae (.inl ⟨rfl,R,by show out.length<=24;omega,⟨P,x,av,ag⟩,g,ao,λad=>?_,Y,ai,X⟩))
  have:=Y V H;rw[ad] at this;cases this
def gG(h:aM->aM->Prop)(g e:List ay):Prop:=e.length=g.length/\∀(i:Nat) b a,g[i]?=c7 b->e[i]?=c7 a->a.aw=b.aw/\a.aH.length=b.aH.length/\∀(d:Nat) c f,b.aH[d]?=c7 c->a.aH[d]?=c7 f->h c f
def gG.snoc{l:aM->aM->Prop}{j o:List ay}{w d:ay}(h:gG l j o)(y:d.aw=w.aw)(u:d.aH.length=w.aH.length)(A:∀(k:Nat) x s,w.aH[k]?=c7 x->d.aH[k]?=c7 s->l x s):gG l (j++[w]) (o++[d]):=by
 refine⟨by simp[h.1],λi m n a c=>?_⟩
 have t:=h.1
 by_cases hi:i<j.length
 .rw[h6 hi] at a;rw[h6 (by omega)] at c;exact h.2 i m n a c
 .rw[eH (by omega)] at a;rw[eH (by omega),t] at c;have e:i -j.length=0:=by
   have:=(dt.1 a).1;simp at this;omega
  rw[e] at a c;have a:w=m:=by simpa using a
  have c:d=n:=by simpa using c
  subst a c;exact⟨y,u,A⟩
def gG.nil{a:aM->aM->Prop}:gG a [] []:=⟨rfl,λi w c h=>by simp at h⟩
def gG.back{j:aM->aM->Prop}{c e:List ay}(h:gG j c e){a:ay}(m:a∈e):∃w,w∈c/\a.aw=w.aw/\a.aH.length=w.aH.length/\∀(k:Nat) x l,w.aH[k]?=c7 x->a.aH[k]?=c7 l->j x l:=by
 obtain⟨i,hi,rfl⟩:=e5.1 m;have d:i<c.length:=by rw[<-h.1];exact hi
 exact⟨c[i],dd d,h.2 i _ _ (c6 d) (c6 hi)⟩
def Gq(h:ak)(b:aL)(m:Int)(Z:gF b)(U:Fit h.ai):Ok (kW LC h b m) λq=>(q.2=0/\cP h/\1<=b.aA.length/\b.aA.length<=24/\gG (λc e=>mP h c m e) b.aA q.1.aA)\/(q.2≠0/\q.1=b):=by
 unfold kW;rw[ko,aa,cF,aa,lA,fh rfl,aa];refine aV (λ_=>ae (.inr ⟨by simp,rfl⟩)) (λy=>?_)
 have ab:cP h:=dv λx=>y (.inl x)
 have x:1<=(b.aA.length:Int)/\(b.aA.length:Int)<=24:=dv λx=>y (.inr x)
 refine aD (Q:=λa=>match a with
  | .inl a=>a.2≠0/\aL.mk a.1=b
  | .inr a=>a.2=0->gG (λc e=>mP h c m e) b.aA a.1) ?_ λa I=>?_
 .refine di b.aA.length (λi d=>∃out p,d=(out,p,(i:Int))/\out.length=i/\(p=0->gG (λc e=>mP h c m e) (b.aA.take i) out)) _ (λi d K o=>?_) (λd o=>?_) _ ⟨[],0,rfl,rfl,λ_=>gG.nil⟩
  .obtain⟨out,p,rfl,G,z⟩:=o;have C:b.aA[i]?=c7 b.aA[i]:=c6 K;have L:=dd K;generalize b.aA[i]=j at C L;have J:=Z.2 j L;have ad:=jZ J.wh;dsimp only;unfold Ka;rw[aC,bn,C,aa,zK J,aa];dsimp only;have Y:Ok (bO (λd:List aM×Int×Int=>An LC j h m b d.1 d.2.1 d.2.2) (j.aH,p,0)) λa=>match a with
    | .inl a=>a.2=6/\a.1=b.aA
    | .inr a=>a.1.length=j.aH.length/\(a.2=0->p=0/\∀(f:Nat) c e,j.aH[f]?=c7 c->a.1[f]?=c7 e->mP h c m e):=by
    refine di j.aH.length (λf d=>d.2.2=(f:Int)/\d.1.length=j.aH.length/\(d.2.1=0->p=0/\∀(n:Nat) c e,n<f->j.aH[n]?=c7 c->d.1[n]?=c7 e->mP h c m e)) _ (λf d A o=>?_) (λd o=>?_) _ ⟨rfl,rfl,λy=>⟨y,λn c e M=>by omega⟩⟩
    .obtain⟨aK,l,S⟩:=d;obtain⟨rfl,u,t⟩:=o;dsimp only at u t⊢;have s:j.aH[f]?=c7 j.aH[f]:=c6 A;generalize j.aH[f]=c at s;unfold An;rw[aC,bn,s,aa];refine aD (Pd h c m U) λq w=>?_
     refine aV (λD=>ae ⟨D,rfl⟩) (λD=>?_)
     have E:(bif c5 (l=0) then c7 q.2 else c7 l)=c7 (if l=0 then q.2 else l):=by
      by_cases k:l=0
      .rw[aC k,if_pos k]
      .rw[aG k,if_neg k]
     have B:f<aK.length:=by omega
     rw[E,aa,bn,c6 B,aa,dk,c6 B,aa,aJ];refine ae ⟨rfl,by rw[dT];exact u,λg=>?_⟩
     dsimp only at g⊢;have k:l=0:=by
      by_cases k:l=0
      .exact k
      .rw[if_neg k] at g;exact g
     rw[if_pos k] at g;obtain⟨F,M⟩:=t k;refine⟨F,λn W V ac v r=>?_⟩
     by_cases H:n=f
     .subst H;rw[gv B] at r;rw[s] at v;injection v with v
      injection r with r
      subst v r;rcases w with⟨_,w⟩ |⟨w,_⟩
      .exact w
      .omega
     .rw[h9 (λE=>H E.symm)] at r;exact M n W V (by omega) v r
    .obtain⟨aK,l,S⟩:=d;obtain⟨rfl,u,t⟩:=o;dsimp only at u t⊢;unfold An;rw[aG];refine ae ⟨u,λg=>⟨(t g).1,λf c e s O=>(t g).2 f c e (dt.1 s).1 s O⟩⟩
   obtain⟨a,X,N⟩:=Y;rw[X];simp only[aa];cases a with
   |inl a=>
    obtain⟨D,R⟩:=N;dsimp only[ft,ei];rw[aa];dsimp only[ft,ei];refine ae ⟨by show a.2≠0;omega,?_⟩
    show aL.mk a.1=b
    rw[R]
   |inr a=>
    obtain⟨T,P⟩:=N;dsimp only[ft,ei];rw[aa];dsimp only[ft,ei];rw[dm (by decide) (by omega),aa,aJ];refine ae ⟨_,_,rfl,by simp[G],λg=>?_⟩
    obtain⟨F,A⟩:=P g;rw[iE C];exact(z F).snoc rfl T A
  .obtain⟨out,p,rfl,G,z⟩:=o;dsimp only;unfold Ka;rw[aG];rw[gy] at z;exact ae z
 .cases a with
  |inl a=>exact ae (.inr I)
  |inr a=>
   dsimp only[ei];refine aV (λg=>ae (.inr ⟨g,rfl⟩)) (λg=>ae (.inl ⟨rfl,ab,by omega,by omega,I (ej.1 g)⟩))
structure ki (m:ak) (l:List Int) (bm:ak):Prop where
 fN:cP m
 fy:cj 0 ((m.af.length:Int) -1) l
 pl:bm.ai=m.ai
 len:bm.af.length=m.af.length
 off:∀(i:Nat) r r',m.af[i]?=c7 r->bm.af[i]?=c7 r'->r'=r/\(i:Int)∉l\/r'={r with jy:=false}/\(i:Int)∈l
def Nw(d:ak)(b:List Int)(E:Fit b)(G:Fit d.af):Ok (sW LC d b) λq=>(q.2=0/\ki d b q.1)\/(q.2≠0/\(cP d->¬cj 0 ((d.af.length:Int) -1) b)/\q.1=⟨[],[]⟩):=by
 unfold sW;rw[ko,aa,de];refine aV (λk=>?_) (λv=>ae (.inr ⟨by simp,λh=>absurd h v,rfl⟩))
 have H:=k.2.1;rw[aJ,kw _ _ _ E,aa,de];refine aV (λu=>?_) (λv=>ae (.inr ⟨by simp,λ_=>v,rfl⟩))
 rw[mV (cX k.1 (by decide)),aa,nk (cX k.2.1 (by decide)),aa];have F:=u.len (by omega);refine aD (Q:=λn=>n.length=d.af.length/\∀(i:Nat) r c,d.af[i]?=c7 r->n[i]?=c7 c->c=r/\(i:Int)∉b\/c={r with jy:=false}/\(i:Int)∈b) ?_ λn A=>ae (.inl ⟨rfl,k,u,rfl,A.1,A.2⟩)
 refine di b.length (λe g=>g.2=(e:Int)/\g.1.length=d.af.length/\∀(i:Nat) r c,d.af[i]?=c7 r->g.1[i]?=c7 c->c=r/\(i:Int)∉b.take e\/c={r with jy:=false}/\(i:Int)∈b.take e) _ (λe g z t=>?_) (λg t=>?_) _ ⟨rfl,rfl,λi r c h a=>.inl ⟨by rw[h] at a;injection a with a;exact a.symm,by simp⟩⟩
 .obtain⟨aK,D⟩:=g;obtain⟨rfl,j,f⟩:=t;dsimp only at j f⊢;have s:b[e]?=c7 b[e]:=c6 z;have B:=u.mem (dd z);generalize b[e]=p at s B;have x:p.toNat<aK.length:=by omega
  have y:aj aK p=c7 (aK[p.toNat]):=qC B.1 (by omega);have l:aK[p.toNat]?=c7 (aK[p.toNat]):=c6 x;generalize aK[p.toNat]=C at y l;unfold Hb;rw[aC,bn,s,aa,y,aa,l,aa,aJ];refine ae ⟨rfl,by rw[dT];exact j,λi r c h a=>?_⟩
  rw[iE s];dsimp only at a;rw[hI] at a
  by_cases w:p.toNat=i
  .rw[if_pos w,if_pos x] at a;injection a with a
   subst a;rw[w] at l;refine .inr ⟨?_,by simp;right;omega⟩
   rcases f i r C h l with⟨rfl,_⟩ |⟨rfl,_⟩ <;> rfl
  .rw[if_neg w] at a;rcases f i r c h a with⟨o,m⟩ |⟨o,m⟩
   .exact .inl ⟨o,by simp[m];omega⟩
   .exact .inr ⟨o,by simp[m]⟩
 .obtain⟨aK,D⟩:=g;obtain⟨rfl,j,f⟩:=t;dsimp only at j f⊢;unfold Hb;rw[aG];rw[gy] at f;exact ae ⟨j,f⟩
def acx(a:ak)(b:List Int)(f:Fit b)(m:Fit a.af):Ok (vU LC a b) λq=>(q.2.2=0/\ki a b ⟨q.1,q.2.1⟩)\/(q.2.2≠0/\(cP a->¬cj 0 ((a.af.length:Int) -1) b)/\q.1=[]/\q.2.1=[]):=by
 have n:vU LC a b=(sW LC a b).bind λq=>c7 (q.1.ai,q.1.af,q.2):=by
  unfold vU sW;rw[ko,aa,aa]
  by_cases d:cP a
  rotate_left
  .rw[decide_eq_false d];rfl
  rw[decide_eq_true d];have o:=d.2.1;rw[aJ,kw _ _ _ f,aa,aa]
  by_cases g:cj 0 ((a.af.length:Int) -1) b
  rotate_left
  .rw[decide_eq_false g];rfl
  rw[decide_eq_true g];simp only[fe,cond_false];rw[mV (cX d.1 (by decide)),aa,aa,nk (cX d.2.1 (by decide)),aa,aa];show((bO (λc:List aZ×Int=>Bp LC b c.1 c.2) (a.af,0)).bind λe=>c7 (a.ai,e,(0:Int)))=((bO (λc:List aZ×Int=>Bp LC b c.1 c.2) (a.af,0)).bind λe=>c7 (ak.mk a.ai e,(0:Int))).bind λq=>c7 (q.1.ai,q.1.af,q.2)
  cases bO (λc:List aZ×Int=>Bp LC b c.1 c.2) (a.af,0) <;> rfl
 rw[n];refine aD (Nw a b f m) λq i=>ae ?_
 rcases i with j |⟨l,k,h⟩
 .exact .inl j
 .exact .inr ⟨l,k,by rw[h],by rw[h]⟩
structure rI (bm:ak) (t:Int) (x y:aM):Prop where
 new:jK bm y
 time:y.aa0=t
 wt:x.aa0<=t/\t<=2147483648
 le:∀p,0<=p->p<(bm.ai.length:Int)->fn x.an p<=t->fn y.an p<=fn x.an p
def apC{bm:ak}{x:aM}{t:Int}(L:x.an.length=bm.ai.length)(I:∀v,v∈x.an->fD v)(A:cP bm):Ok (CA LC bm x t) λq=>(q.2=0/\rI bm t x q.1)\/q.2≠0:=by
 have K:=A.1;unfold CA;rw[B6 (by omega),aa,Az (cX (n:=64) (by omega) (by decide)),aa];have F:(ec x.an.length (1099511627776:Int)).length=x.an.length:=e6;have y:∀p,p∈dz x t->0<=p/\p<(x.an.length:Int):=λp f=>by have:=Sq.1 f;exact⟨this.1,this.2.1⟩
 have J:(dz x t).length<=x.an.length:=pQ;refine aD (Q:=λh=>h.length=x.an.length/\(∀v,v∈h->fD v)/\∀p,p∈dz x t->fn h p=fn x.an p) ?_ λh E=>?_
 .refine di (dz x t).length (λe d=>d.2=(e:Int)/\d.1.length=x.an.length/\(∀v,v∈d.1->fD v)/\∀b p,b<e->(dz x t)[b]?=c7 p->fn d.1 p=fn x.an p) _ (λe d u r=>?_) (λd r=>?_) _ ⟨rfl,F,λv k=>.inr (gx k),λb p m=>by omega⟩
  .obtain⟨aK,B⟩:=d;obtain⟨rfl,g,j,i⟩:=r;dsimp only at g j i⊢;have f:(dz x t)[e]?=c7 (dz x t)[e]:=c6 u;have c:=y _ (dd u);generalize (dz x t)[e]=p at f c;unfold JO;rw[aC,bn,f,aa,gH c.1 c.2,aa,gH (l:=aK) c.1 (by omega),aa,iD (l:=aK) c.1 (by omega),aa,aJ];have H:=λq a=>wy (l:=aK) (p:=p) (q:=q) (x:=fn x.an p) c.1 (by omega) a
   refine ae ⟨rfl,by rw[dT];exact g,λv k=>?_,λb q m a=>?_⟩
   .rcases ev k with k |rfl
    .exact j v k
    .exact I _ (oR c.1 c.2)
   .dsimp only;have C:=y q (fC a);rw[H q C.1]
    split
    .rename_i s;rw[s]
    .rename_i s
     by_cases D:b=e
     .subst D;rw[f] at a;injection a with a;exact absurd a.symm s
     .exact i b q (by omega) a
  .obtain⟨aK,B⟩:=d;obtain⟨rfl,g,j,i⟩:=r;dsimp only at g j i⊢;unfold JO;rw[aG];refine ae ⟨g,j,λp f=>?_⟩
   obtain⟨b,m,rfl⟩:=e5.1 f;exact i b _ m (c6 m)
 .rw[acr];refine aD (Pd bm ⟨x.aa0,h⟩ t (by show bm.ai.length<=_;omega)) λq a=>ae ?_
  rcases a with⟨h0,o⟩ |⟨h0,_⟩
  .refine .inl ⟨h0,o.new,o.time,o.wt,λp w z G=>?_⟩
   have:=o.le p w z;rw[E.2.2 p (Sq.2 ⟨w,by omega,G⟩)] at this;exact this
  .exact .inr (by show q.2≠0;omega)
def Yj{l:List ay}{a:Int}(h:Fit l)(g:∀d,d∈l->Fit d.aH):AL LC l a=c7 (l.any λd=>d.aH.any λe=>c5 (a<e.aa0)):=by
 unfold AL Jm;have:=fF (l:=l) (P:=λc=>AP LC c a) (p:=λd=>d.aH.any λe=>c5 (a<e.aa0)) (f:=λb=>Jx LC l a b) h (λc i=>by
  unfold AP JC Gk;have:=fF (l:=c.aH) (P:=λc=>Jb LC c a) (p:=λe=>c5 (a<e.aa0)) (f:=λb=>Gr LC c.aH a b) (g c i) (λj k=>rfl) (λb=>rfl);rw[show(LC.loop (λb=>Gr LC c.aH a b) 0).bind _=_ from this,aa,gm]
  rfl) (λb=>rfl)
 rw[show(LC.loop (λb=>Jx LC l a b) 0).bind _=_ from this,aa,gm]
structure Ff (m:ak) (b:aL) (l:List Int) (t:Int) (n np:Nat) (b':aL):Prop where
 v:mz m b
 ex:∃bm lw,ki m l bm/\gG (λx y=>rI bm t x y) b.aA lw/\rZ n np lw b'.aA
def adg{g d:ak}{n:List Int}(h:ki g n d):cP d:=by
 obtain⟨a,_,b,l,k⟩:=h;refine⟨by rw[b];exact a.1,by rw[l];exact a.2.1,by rw[b];exact a.2.2.1,λo j=>?_⟩
 obtain⟨i,m,rfl⟩:=e5.1 j;have e:i<g.af.length:=by omega
 rw[b];have f:=a.2.2.2 _ (dd e);rcases k i _ _ (c6 e) (c6 m) with⟨c,_⟩ |⟨c,_⟩
 .rw[c];exact f
 .rw[c];exact f
def Uw(l:ak)(b:aL)(B:List Int)(t:Int){n np:Nat}(aq:n<=3)(aA:np<=64)(M:gF b)(ai:Fit B)(ac:Fit l.af)(E:∀a,a∈b.aA->j0 n np a/\a.aw.length=n)(T:l.ai.length=np):Ok (Em LC l b B t) λq=>(q.2=0/\Ff l b B t n np q.1)\/q.2≠0:=by
 unfold Em;refine aD (vB l b M) λv au=>?_
 rw[de];refine dy (λX=>?_) (λ_=>ae (.inr (by simp)))
 have H:=au X;have aF:=H.num;have h0:b.aA[0]?=c7 (b.aA[0]'(by omega)):=c6 (by omega);have L:=dd (show 0<b.aA.length by omega);generalize b.aA[0]'(by omega)=am at h0 L;have aB:=H.Mp L (by rw[(E am L).2];exact aq);refine aD (Nw l B ai ac) λr al=>?_
 refine aV (λs=>ae (.inr s)) (λag=>?_)
 obtain⟨bm,af⟩:=r;have G:ki l B bm:=by
  rcases al with⟨_,o⟩ |⟨o,_⟩
  .exact o
  .exact absurd o ag
 have Y:=adg G;rw[Yj (by show b.aA.length<=_;omega) (λa g=>by show a.aH.length<=_;rw[(E a g).1.1];omega),aa];have O:(bif c5 (2147483648<t) then c7 true else c7 (b.aA.any λa=>a.aH.any λx=>c5 (t<x.aa0)))=c7 (c5 (2147483648<t)||b.aA.any λa=>a.aH.any λx=>c5 (t<x.aa0)):=Fy rfl;rw[O,aa];refine dy (λ_=>ae (.inr (by simp))) (λ_=>?_)
 refine aD (Q:=λc=>match c with
  | .inl c=>c.2≠0
  | .inr c=>gG (λx w=>rI bm t x w) b.aA c) ?_ λc D=>?_
 .refine di b.aA.length (λi e=>∃out,e=(out,(i:Int))/\gG (λx w=>rI bm t x w) (b.aA.take i) out) _ (λi e S k=>?_) (λe k=>?_) _ ⟨[],rfl,gG.nil⟩
  .obtain⟨out,rfl,A⟩:=k;have g:b.aA[i]?=c7 b.aA[i]:=c6 S;have F:=dd S;generalize b.aA[i]=a at g F;have ap:=M.2 a F;obtain⟨C,aj⟩:=E a F;have ay:=C.1;have P:=A.1;rw[ea] at P;dsimp only;unfold FR;rw[aC,bn,g,aa,zK ap,aa];dsimp only;have ao:Ok (bO (λe:List aM×Int=>zx LC a (bm,af) t b e.1 e.2) (a.aH,0)) λc=>match c with
    | .inl c=>c.2≠0
    | .inr c=>c.length=a.aH.length/\∀(d:Nat) x f,a.aH[d]?=c7 x->c[d]?=c7 f->rI bm t x f:=by
    refine di a.aH.length (λd e=>e.2=(d:Int)/\e.1.length=a.aH.length/\∀(j:Nat) x f,j<d->a.aH[j]?=c7 x->e.1[j]?=c7 f->rI bm t x f) _ (λd e u k=>?_) (λe k=>?_) _ ⟨rfl,rfl,λj x f aE=>by omega⟩
    .obtain⟨aK,Z⟩:=e;obtain⟨rfl,p,z⟩:=k;dsimp only at p z⊢;have h:a.aH[d]?=c7 a.aH[d]:=c6 u;have N:=dd u;generalize a.aH[d]=x at h N;unfold zx;rw[aC,bn,h,aa];refine aD (apC (bm:=bm) (x:=x) (t:=t) (by rw[C.2 x N,G.pl,T]) (H.ok a F x N).1.2.2 Y) λq ab=>?_
     refine aV (λs=>ae s) (λs=>?_)
     have av:rI bm t x q.1:=by
      rcases ab with⟨_,o⟩ |o
      .exact o
      .exact absurd o s
     have J:d<aK.length:=by omega
     rw[bn,c6 J,aa,dk,c6 J,aa,aJ];refine ae ⟨rfl,by rw[dT];exact p,λj w ad az y m=>?_⟩
     dsimp only at m
     by_cases R:j=d
     .subst R;rw[gv J] at m;rw[h] at y;injection y with y
      injection m with m
      subst y m;exact av
     .rw[h9 (λO=>R O.symm)] at m;exact z j w ad (by omega) y m
    .obtain⟨aK,Z⟩:=e;obtain⟨rfl,p,z⟩:=k;dsimp only at p z⊢;unfold zx;rw[aG];exact ae ⟨p,λd x f h V=>z d x f (dt.1 h).1 h V⟩
   obtain⟨c,ah,U⟩:=ao;rw[ah];simp only[aa];cases c with
   |inl c=>
    dsimp only[ft,ei];rw[aa];exact ae U
   |inr c=>
    obtain⟨K,I⟩:=U;dsimp only[ft,ei];rw[aa];dsimp only[ft,ei];rw[dm (by decide) (by omega),aa,aJ];refine ae ⟨_,rfl,?_⟩
    rw[iE g];exact A.snoc rfl K I
  .obtain⟨out,rfl,A⟩:=k;dsimp only;unfold FR;rw[aG];rw[gy] at A;exact ae A
 .cases c with
  |inl c=>exact ae (.inr D)
  |inr c=>
   dsimp only[ei];have P:=D.1;refine aD (QQ (n:=n) (np:=np) (by omega) (by omega) c (λaw W=>?_) (by omega)) λout ar=>ae (.inl ⟨rfl,H,bm,c,G,D,ar⟩)
   obtain⟨a,g,K,I,an⟩:=D.back W;obtain⟨C,aj⟩:=E a g;refine⟨⟨I.trans C.1,λx h=>?_⟩,by rw[K];exact(M.2 a g).tg⟩
   obtain⟨d,u⟩:=hP.1 h;have ax:=(dt.1 u).1;have:=(an d _ x (c6 (show d<a.aH.length by omega)) u).new.1.1;rw[this,G.pl,T]
def ld(b:aL)(a e:Int):List Int:=kM (λp=>b.aA.any λd=>c5 (0<=a/\a<(d.aH.length:Int))&&(match d.aH[a.toNat]? with |some c=>c5 (p<(c.an.length:Int))&&c5 (fn c.an p<=e) |none=>false)) 64
def RJ{b:aL}{f l p:Int}:p∈ld b f l↔0<=p/\p<64/\∃c d,c∈b.aA/\0<=f/\c.aH[f.toNat]?=c7 d/\p<(d.an.length:Int)/\fn d.an p<=l:=by
 unfold ld;rw[SJ,m2]
 constructor
 .rintro⟨i,h,c,g,k⟩;rw[j4,decide_eq_true_iff] at k;obtain⟨j,a⟩:=k;cases e:c.aH[f.toNat]? with
  |none=>rw[e] at a;cases a
  |some d=>
   rw[e] at a;dsimp only at a;rw[j4,decide_eq_true_iff,decide_eq_true_iff] at a;exact⟨i,h,c,d,g,j.1,e,a.1,a.2⟩
 .rintro⟨i,h,c,d,g,j,e,a,m⟩;refine⟨i,h,c,g,?_⟩
  have:=(dt.1 e).1;rw[e];dsimp only;rw[j4,decide_eq_true_iff,j4,decide_eq_true_iff,decide_eq_true_iff];exact⟨⟨j,by omega⟩,a,m⟩
def QC{b:aL}{a e:Int}(m:gF b):rJ LC b a e=c7 (ld b a e):=by
 unfold rJ Lb;have s:=jZ m.1;have r:=GY (n:=64) (by omega) (P:=λd=>AZ LC d b.aA a e) (p:=λp=>b.aA.any λc=>c5 (0<=a/\a<(c.aH.length:Int))&&(match c.aH[a.toNat]? with |some g=>c5 (p<(g.an.length:Int))&&c5 (fn g.an p<=e) |none=>false)) (f:=λd=>JI LC 64 b.aA a e d.1 d.2) (λi u=>by
  unfold AZ FH Gu;have:=fF (l:=b.aA) (P:=λc=>zt LC c a (i:Int) e) (p:=λc=>c5 (0<=a/\a<(c.aH.length:Int))&&(match c.aH[a.toNat]? with |some g=>c5 ((i:Int)<(g.an.length:Int))&&c5 (fn g.an i<=e) |none=>false)) (f:=λd=>GA LC b.aA a (i:Int) e d) (by omega) (λc o=>by
   unfold zt;have t:=jZ (m.2 c o).wh;rw[aJ (n:=(c.aH.length:Int) -1),cF,aa]
   by_cases j:0<=a/\a<=(c.aH.length:Int) -1
   .have k:c.aH[a.toNat]?=c7 (c.aH[a.toNat]'(by omega)):=c6 (by omega);generalize c.aH[a.toNat]'(by omega)=g at k;have q:aj c.aH a=c7 g:=by unfold aj;rw[if_pos j.1];exact k
    rw[aC j,q,aa,aa,k,decide_eq_true (show 0<=a/\a<(c.aH.length:Int) by omega),Bool.true_and];dsimp only
    by_cases h:(i:Int)<(g.an.length:Int)
    .rw[aC h,gH (by omega) h,aa,decide_eq_true h];rfl
    .rw[aG h,decide_eq_false h];rfl
   .rw[aG j,decide_eq_false (show ¬(0<=a/\a<(c.aH.length:Int)) by omega)];rfl) (λd=>rfl)
  rw[show(LC.loop (λd=>GA LC b.aA a (i:Int) e d) 0).bind _=_ from this,aa,gm]
  rfl) (λl d=>rfl)
 rw[show LC.loop (λd:List Int×Int=>JI LC 64 b.aA a e d.1 d.2) ([],0)=_ from r,aa,aa]
 rfl
def js(e:ay)(d:List Int)(b:Int)(c:Nat):Bool:=match e.aH[c]? with |some a=>(dz a b).any λp=>c5 (p∈d) |none=>false
def jT(d:ay)(c:List Int)(a:Int)(b:Nat):Bool:=js d c a b&&(match d.aH[b]? with |some e=>!(dz e a).any λp=>!c5 (p∈c) |none=>false)
def Zz{e:ay}{g:Nat}{a:List Int}{c:Int}(k:tz e)(n:Fit a)(m:g<e.aH.length):Cx LC e (g:Int) a c=c7 (jT e a c g,js e a c g):=by
 have j:e.aH[g]?=c7 e.aH[g]:=c6 m;have i:=dd m;unfold Cx jT js;rw[j];generalize e.aH[g]=b at j i;have t:=jZ (k.fr b i);have s:(dz b c).length<=b.an.length:=pQ;have o:CG LC (dz b c) a=c7 ((dz b c).any λp=>c5 (p∈a)):=by
  unfold CG Jg;have:=fF (l:=dz b c) (P:=λh=>uh LC h a) (p:=λp=>c5 (p∈a)) (f:=λd=>Jj LC (dz b c) a d) (by omega) (λh r=>by
   unfold uh;rw[contains_eq n,aa]) (λd=>rfl)
  rw[show(LC.loop (λd=>Jj LC (dz b c) a d) 0).bind _=_ from this,aa,gm]
 have q:zo LC (dz b c) a=c7 ((dz b c).any λp=>!c5 (p∈a)):=by
  unfold zo FW;have:=fF (l:=dz b c) (P:=λh=>zq LC h a) (p:=λp=>!c5 (p∈a)) (f:=λd=>Ih LC (dz b c) a d) (by omega) (λh r=>by
   unfold zq uh;rw[contains_eq n,aa,aa]) (λd=>rfl)
  rw[show(LC.loop (λd=>Ih LC (dz b c) a d) 0).bind _=_ from this,aa,gm]
 rw[aG,bn,j,aa,Az (k.fr b i),aa,o,aa,q,aa];dsimp only;cases (dz b c).any λp=>c5 (p∈a) <;> rfl
def fH(p:Nat->Bool):Nat->Int
 |0=>0
 |a+1=>fH p a+(if p a then 1 else 0)
def Iu(p:Nat->Bool):∀a,0<=fH p a/\fH p a<=a
 |0=>by unfold fH;omega
 |a+1=>by have:=Iu p a;unfold fH;split <;> omega
def asD{p q:Nat->Bool}:∀a,(∀i,i<a->p i=true->q i=true)->fH p a<=fH q a
 |0,_=>ey _
 |a+1,b=>by
  have e:=asD a λi f=>b i (by omega)
  have d:=b a (by omega);unfold fH;cases c:p a with
  |true=>rw[d c];simp;exact e
  |false=>simp only[hY,if_false];split <;> omega
def aqJ{b:aL}{area:List Int}{t:Int}(p:gF b)(y:Fit area):Ok (Ew LC b area t) λd=>∀a,a∈b.aA->d.eF<=fH (jT a area t) a.aH.length/\fH (js a area t) a.aH.length<=d.fk:=by
 have D:=jZ p.1;unfold Ew;refine aD (Q:=λk=>∀a,a∈b.aA->k.1<=fH (jT a area t) a.aH.length/\fH (js a area t) a.aH.length<=k.2) ?_ λk v=>ae v
 refine di b.aA.length (λi d=>d.2.2=(i:Int)/\∀a,a∈b.aA.take i->d.1<=fH (jT a area t) a.aH.length/\fH (js a area t) a.aH.length<=d.2.1) _ (λi d r e=>?_) (λd e=>?_) _ ⟨rfl,λa h=>by simp at h⟩
 .obtain⟨o,l,A⟩:=d;obtain⟨rfl,e⟩:=e;dsimp only at e⊢;have h:b.aA[i]?=c7 b.aA[i]:=c6 r;have s:=dd r;generalize b.aA[i]=a at h s;have q:=p.2 a s;have C:=jZ q.wh;unfold Fa;rw[aC,bn,h,aa];have z:=nV (f:=λd:Int×Int×Int=>DF LC a area t d.1 d.2.1 d.2.2) a.aH.length (λc=>(fH (jT a area t) c,fH (js a area t) c,(c:Int))) (fH (jT a area t) a.aH.length,fH (js a area t) a.aH.length) (λc u=>by
   dsimp only;unfold DF;have B:=Iu (jT a area t) c;have F:=Iu (js a area t) c;rw[aC,Zz q y u,aa];dsimp only;rw[aJ (n:=fH (jT a area t) c+1),aJ (n:=fH (js a area t) c+1),aJ (n:=(c:Int)+1)];have x:(bif jT a area t c then c7 (fH (jT a area t) c+1) else c7 (fH (jT a area t) c))=c7 (fH (jT a area t) (c+1)):=by
    rw[fH];cases jT a area t c
    .simp
    .simp
   have m:(bif js a area t c then c7 (fH (js a area t) c+1) else c7 (fH (js a area t) c))=c7 (fH (js a area t) (c+1)):=by
    rw[fH];cases js a area t c
    .simp
    .simp
   rw[x,aa,m,aa]
   rfl) (by
   dsimp only;unfold DF;rw[aG])
  refine c8 z ?_
  dsimp only;have m:(bif c5 ((i:Int)=0) then c7 (fH (jT a area t) a.aH.length,fH (js a area t) a.aH.length) else c7 (o,l))=c7 (if(i:Int)=0 then(fH (jT a area t) a.aH.length,fH (js a area t) a.aH.length) else(o,l)):=by
   by_cases j:(i:Int)=0
   .rw[aC j,if_pos j]
   .rw[aG j,if_neg j]
  rw[m,aa,aJ];refine ae ⟨rfl,λw g=>?_⟩
  rw[iE h] at g;dsimp only;rcases e4.1 g with g |g
  .have E:=e w g;rw[if_neg (by
    intro h0;have:i=0:=by omega
    subst this;simp at g)]
   omega
  .rw[e0] at g;subst g
   split <;> omega
 .obtain⟨o,l,A⟩:=d;obtain⟨rfl,e⟩:=e;dsimp only at e⊢;unfold Fa;rw[aG];rw[gy] at e;exact ae e
def D1(b:aL)(d:List Int):Prop:=∀c,c∈b.aA->∀a,a∈c.aH->∀p,p∈d->0<=p->p<(a.an.length:Int)->fn a.an p=1099511627776
noncomputable instance (b:aL) (a:List Int):Decidable (D1 b a):=m3 _
def apy{b:List Int}{a:aM}(h:Fit b)(i:Sm a.an):As LC b a=c7 (b.any λp=>c5 ((0<=p/\p<(a.an.length:Int))/\fn a.an p≠1099511627776)):=by
 unfold As G4;have j:=jZ i;have:=fF (l:=b) (P:=λg=>CR LC g a) (p:=λp=>c5 ((0<=p/\p<(a.an.length:Int))/\fn a.an p≠1099511627776)) (f:=λc=>G9 LC b a c) h (λg k=>by
  unfold CR;rw[aJ,cF,aa]
  by_cases d:0<=g/\g<=(a.an.length:Int) -1
  .rw[aC d,gH d.1 (by omega),aa]
   congr 1
   exact decide_eq_decide.2 ⟨λe=>⟨by omega,e⟩,λe=>e.2⟩
  .rw[aG d,decide_eq_false (λe=>d (by omega))]) (λc=>rfl)
 rw[show(LC.loop (λc=>G9 LC b a c) 0).bind _=_ from this,aa,gm]
def Vo{b:aL}{e:List Int}(m:gF b)(x:Fit e):wA LC b e=c7 (c5 (D1 b e)):=by
 have A:=jZ m.1;unfold wA;have t:∀c,c∈b.aA->bO (λg=>xK LC c e g) 0=c7 (if ∀i,i<c.aH.length->(λi:Nat=>match c.aH[i]? with |some d=>e.any λp=>c5 ((0<=p/\p<(d.an.length:Int))/\fn d.an p≠1099511627776) |none=>false) i=false then .inr () else .inl ()):=λc h=>by
  have z:=jZ (m.2 c h).wh;refine oD _ _ () (λi a=>?_) ?_
  .unfold xK;rw[aC,bn,c6 a,aa,apy x ((m.2 c h).fr _ (dd a)),aa,aJ];simp only[c6 a];cases e.any λp=>c5 ((0<=p/\p<(c.aH[i].an.length:Int))/\fn c.aH[i].an p≠1099511627776) <;> rfl
  .unfold xK;rw[aG]
 have o:∀c,c∈b.aA->((∀i,i<c.aH.length->(λi:Nat=>match c.aH[i]? with |some d=>e.any λp=>c5 ((0<=p/\p<(d.an.length:Int))/\fn d.an p≠1099511627776) |none=>false) i=false)↔∀d,d∈c.aH->∀p,p∈e->0<=p->p<(d.an.length:Int)->fn d.an p=1099511627776):=λc h=>by
  constructor
  .intro f d u p l h0 k;obtain⟨i,a,rfl⟩:=e5.1 u;have:=f i a;simp only[c6 a,m1] at this;have:=this p l;rw[decide_eq_true_iff] at this;exact dv λv=>this ⟨⟨h0,k⟩,v⟩
  .intro f i a;simp only[c6 a,m1];intro p l q;obtain⟨⟨h0,k⟩,r⟩:=of_decide_eq_true q;exact r (f _ (dd a) p l h0 k)
 have y:bO (λg=>wF LC b e g) 0=c7 (if ∀i,i<b.aA.length->(λi:Nat=>match b.aA[i]? with |some c=>!c5 (∀i,i<c.aH.length->(λi:Nat=>match c.aH[i]? with |some d=>e.any λp=>c5 ((0<=p/\p<(d.an.length:Int))/\fn d.an p≠1099511627776) |none=>false) i=false) |none=>false) i=false then .inr () else .inl ()):=by
  refine oD _ _ () (λi a=>?_) ?_
  .unfold wF;rw[aC,bn,c6 a,aa,show LC.loop (λg=>xK LC b.aA[i] e g) 0=_ from t _ (dd a),aa,aJ];simp only[c6 a]
   by_cases f:∀n,n<b.aA[i].aH.length->(λw:Nat=>match b.aA[i].aH[w]? with |some d=>e.any λp=>c5 ((0<=p/\p<(d.an.length:Int))/\fn d.an p≠1099511627776) |none=>false) n=false
   .rw[if_pos f,decide_eq_true f];rfl
   .rw[if_neg f,decide_eq_false f];rfl
  .unfold wF;rw[aG]
 rw[show LC.loop (λg=>wF LC b e g) 0=_ from y,aa]
 by_cases j:D1 b e
 .rw[if_pos (λi a=>by
   simp only[c6 a];rw[decide_eq_true ((o _ (dd a)).2 (j _ (dd a)))];rfl),decide_eq_true j]
  rfl
 .rw[if_neg (λs=>j λc h=>by
   obtain⟨i,a,rfl⟩:=e5.1 h;have:=s i a;simp only[c6 a] at this;rw[Bool.not_eq_false',decide_eq_true_iff] at this;exact(o _ h).1 this),decide_eq_false j]
  rfl
def ke(a:bI):Prop:=-1125899906842624<=a.eF/\a.fk<=1125899906842624/\a.eF<=a.fk
instance (a:bI):Decidable (ke a):=by unfold ke;infer_instance
def lq(a:ak)(b:List bI):Prop:=cP a/\b.length=a.af.length/\∀c,c∈b->ke c
instance (a:ak) (b:List bI):Decidable (lq a b):=by unfold lq;infer_instance
def uW(d:ak)(l:List bI):pD LC d l=c7 (c5 (lq d l)):=by
 unfold pD;rw[ko,aa]
 by_cases c:cP d
 rotate_left
 .rw[aG c,decide_eq_false (λb=>c b.1)]
 have i:=c.2.1;rw[aC c]
 by_cases e:(l.length:Int)=(d.af.length:Int)
 rotate_left
 .rw[aG e,decide_eq_false (λb=>e (by have:=b.2.1;omega))]
 rw[aC e];have h:B8 LC l=c7 (l.any λa=>!c5 (ke a)):=by
  unfold B8 Kq;have:=fF (l:=l) (P:=λg=>EP LC g) (p:=λa=>!c5 (ke a)) (f:=λa=>Kz LC l a) (by omega) (λg j=>by
   unfold EP;rw[ew (ew rfl), <-decide_not]
   congr 1
   apply decide_eq_decide.2
   unfold ke;omega) (λa=>rfl)
  rw[show(LC.loop (λa=>Kz LC l a) 0).bind _=_ from this,aa,gm]
 rw[h,aa,ot]
 congr 1
 exact decide_eq_decide.2 ⟨λb=>⟨c,by omega,b⟩,λb=>b.2.2⟩
def Fe{a:ak}(m:cP a){i:Nat}{e:bI}(b:Bool)(p:ke e):Ok (n6 LC a (i:Int) e b) λn=>n= -1\/(0<=n/\n<=1000000000000):=by
 obtain⟨v,s,y⟩:=p;have z:=m.2.1;unfold n6
 by_cases k:i<a.af.length
 rotate_left
 .have h:(bif c5 ((i:Int)<0) then c7 true else bif c5 ((a.af.length:Int)<=(i:Int)) then c7 true else(aj a.af (i:Int)).bind λf=>c7 f.eN)=c7 true:=by
   rw[aG,aC]
  rw[h,aa];exact ae (.inl rfl)
 have j:=m.2.2.2 _ (dd k);have g:=c6 k;generalize a.af[i]=r at j g;have d:=j.2.1;have h:(bif c5 ((i:Int)<0) then c7 true else bif c5 ((a.af.length:Int)<=(i:Int)) then c7 true else(aj a.af (i:Int)).bind λf=>c7 f.eN)=c7 r.eN:=by
  rw[aG,aG,bn,g,aa]
 rw[h,aa];refine dy (λ_=>ae (.inl rfl)) (λ_=>?_)
 rw[bn,g,aa,aJ (n:=0 -e.fk),aJ (n:=0 -e.eF)];refine aD (Q:=λc=>-1125899906842624<=c.2/\c.2<=1125899906842624) (dy (λ_=>ae (by dsimp only;omega)) (λ_=>ae (by dsimp only;omega))) λc x=>?_
 refine aD (Q:=λn=>n= -1\/(0<=n/\n<=1000000000000)) (dy (λ_=>ae (.inr (by omega))) (λ_=>ae (.inl rfl))) λn l=>?_
 refine aV (λw=>?_) (λ_=>ae l)
 have A:1<=r.aj3*r.bT:=q7 (by decide) (my d.1 d.2.2.1 (by decide) (by omega));have t:r.aj3*r.bT<=100000*1000:=my d.2.1 d.2.2.2 (by omega) (by decide);rw[aJ (n:=r.aj3*r.bT),aJ (n:=r.aj3*r.bT*1000),Ek (by omega),aa];have o:(r.aj3*r.bT*1000).tdiv c.2=(r.aj3*r.bT*1000)/c.2:=Int.tdiv_eq_ediv_of_nonneg (by omega);have q:0<=(r.aj3*r.bT*1000)/c.2:=p6 (by omega) (by omega);have u:(r.aj3*r.bT*1000)/c.2<=r.aj3*r.bT*1000:=oj _ (by omega);rw[o,aJ,ew rfl,aa];exact aV (λ_=>ae (.inr (by omega))) (λ_=>ae l)
def eC(c:ak)(b:List Int):Prop:=b.length=c.ai.length/\∀a,a∈b->0<=a/\a<=1099511627776
def iu:List Int->Int
 |[]=>0
 |a::b=>a+iu b
def FF:∀{l:List Int},(∀a,a∈l->0<=a/\a<=1099511627776)->0<=iu l
 |[],_=>ey _
 |a::l,b=>by
  have f:=b a (by simp);have e:=FF (l:=l) λc d=>b c (by simp[d])
  unfold iu;omega
def LQ:∀{b:List Int} {i:Nat} {c a:Int},b[i]?=c7 a->iu (b.set i c)=iu b -a+c
 |[],i,c,a,d=>by simp at d
 |e::b,0,c,a,d=>by
  have:e=a:=by simpa using d
  subst this;rw[hX];unfold iu;omega
 |e::b,i+1,c,a,d=>by
  have f:b[i]?=c7 a:=by simpa using d
  rw[l2];unfold iu;rw[LQ f];omega
def eC.set{m:ak}{c:List Int}(h:eC m c)(i:Nat){x:Int}(e:0<=x/\x<=1099511627776):eC m (c.set i x):=⟨by rw[dT];exact h.1,λd a=>by
 rcases ev a with a |rfl
 .exact h.2 d a
 .exact e⟩
def P4{c:ak}{fl:List bI}(j:lq c fl){a:List Int}(d:eC c a){i:Nat}(l:i<c.af.length){p q:Int}(f:0<=p/\p<(c.ai.length:Int))(e:0<=q/\q<(c.ai.length:Int))(b:Bool):
 Ok (yr LC a c.ai c.af fl (i:Int) p q b) λr=>eC c r.1/\((r.2=false/\r.1=a)\/(r.2=true/\iu r.1<iu a)):=by
 have k:i<fl.length:=by rw[j.2.1];exact l
 unfold yr;rw[bn,c6 k,aa];refine aD (Fe j.1 b (j.2.2 _ (dd k))) λn t=>?_
 have h:p<(a.length:Int):=by rw[d.1];exact f.2
 have g:q<(a.length:Int):=by rw[d.1];exact e.2
 have s:=d.2 _ (oR f.1 h);have o:=d.2 _ (oR e.1 g);rw[gH f.1 h,iD f.1 h,gH e.1 g,iD e.1 g];simp only[aa];rw[aJ (n:=fn a p+n),ew (ew (ew rfl)),aa];refine aV (λ_=>ae ⟨d,.inl ⟨rfl,rfl⟩⟩) (λm=>ae ⟨d.set _ (by omega),.inr ⟨rfl,?_⟩⟩)
 show iu (a.set q.toNat (fn a p+n))<iu a
 rw[LQ (iD e.1 g)];omega
def Af{b:ak}{fl:List bI}(k:lq b fl){n:List Int}(x:eC b n):Ok (rM LC n b.ai b.af fl) (eC b):=by
 have C:=k.1.2.1;unfold rM;refine aD (Q:=eC b) ?_ λr e=>ae e
 refine oa (λa:List Int×Bool=>eC b a.1) (λa=>2*(iu a.1).toNat+(if a.2 then 1 else 0)) _ (λa c=>?_) _ x
 obtain⟨aK,D⟩:=a;unfold Ms;refine dy (λw=>?_) (λ_=>ae c)
 dsimp only at w c⊢;subst w;refine aD (Q:=λf=>eC b f.1/\((f.2=false/\iu f.1<=iu aK)\/(f.2=true/\iu f.1<iu aK))) ?_ λf p=>?_
 .refine di b.af.length (λi a=>a.2.2=(i:Int)/\eC b a.1/\((a.2.1=false/\iu a.1<=iu aK)\/(a.2.1=true/\iu a.1<iu aK))) _ (λi a m c=>?_) (λa c=>?_) _ ⟨rfl,c,.inl ⟨rfl,ey _⟩⟩
  .obtain⟨n,o,z⟩:=a;obtain⟨rfl,h,d⟩:=c;dsimp only at h d⊢;have e:=(k.1.2.2.2 _ (dd m)).1;unfold I6;rw[aC,bn,c6 m,aa];generalize b.af[i]=r at e;refine aD (P4 k h m ⟨e.1,by omega⟩ ⟨e.2.2.1,by omega⟩ false) λt q=>?_
   refine aD (P4 k q.1 m ⟨e.2.2.1,by omega⟩ ⟨e.1,by omega⟩ true) λv u=>?_
   have y:(bif o then c7 true else bif t.2 then c7 true else c7 v.2)=c7 (o||(t.2||v.2)):=Fy (Fy rfl);rw[y,aa,aJ];refine ae ⟨rfl,u.1,?_⟩
   dsimp only;rcases d with⟨rfl,d⟩ |⟨rfl,d⟩ <;> rcases q.2 with⟨g,j⟩ |⟨g,j⟩ <;> rcases u.2 with⟨s,l⟩ |⟨s,l⟩ <;> rw[g,s] <;> simp only[Bool.or_false,Bool.or_true,Bool.true_or,Bool.false_or,true_and,false_and,reduceCtorEq,false_or,or_false] <;> first |(rw[l,j];exact d) |(rw[l];omega) |(rw[j] at l;omega) |omega
  .obtain⟨n,o,z⟩:=a;obtain⟨rfl,h,d⟩:=c;dsimp only at h d⊢;unfold I6;rw[aG];exact ae ⟨h,d⟩
 .have A:=FF c.2;have B:=FF p.1.2;refine ae ⟨p.1,?_⟩
  dsimp only;rcases p.2 with⟨g,j⟩ |⟨g,j⟩
  .rw[g];simp only[if_true,hY,if_false];omega
  .rw[g];simp only[if_true];omega
def ud(c:ak)(a:bQ):Prop:=cP c/\a.an.length=c.ai.length/\(0<=a.aa0/\a.aa0<=2147483648)/\∀b,b∈a.an->b=1099511627776\/(a.aa0<=b/\b<=2147483648)
instance (a:ak) (b:bQ):Decidable (ud a b):=by unfold ud;infer_instance
def QM(g:ak)(a:bQ):wB LC g a=c7 (c5 (ud g a)):=by
 unfold wB;rw[ko,aa]
 by_cases e:cP g
 rotate_left
 .rw[aG e,decide_eq_false (λb=>e b.1)]
 have n:=e.1;rw[aC e]
 by_cases h:(a.an.length:Int)=(g.ai.length:Int)
 rotate_left
 .rw[aG h,decide_eq_false (λb=>h (by have:=b.2.1;omega))]
 rw[aC h,cF,aa];have k:Ab LC a.an a=c7 (a.an.any λc=>!c5 (c=1099511627776\/(a.aa0<=c/\c<=2147483648))):=by
  unfold Ab GH;have:=fF (l:=a.an) (P:=λd=>DV LC d a) (p:=λc=>!c5 (c=1099511627776\/(a.aa0<=c/\c<=2147483648))) (f:=λi=>GU LC a.an a i) (by omega) (λd o=>by
   unfold DV;rw[cF,aa]
   by_cases b:d=1099511627776
   .rw[aG (λm=>m b),decide_eq_true (show d=1099511627776\/(a.aa0<=d/\d<=2147483648) from .inl b)];rfl
   .rw[aC b]
    congr 2
    apply decide_eq_decide.2
    exact⟨.inr,λj=>j.resolve_left b⟩) (λa=>rfl)
  rw[show(LC.loop (λi=>GU LC a.an a i) 0).bind _=_ from this,aa,gm]
 rw[k,aa,ot,fm rfl]
 congr 1
 exact decide_eq_decide.2 ⟨λb=>⟨e,by omega,b⟩,λb=>b.2.2⟩
def eC.of{m:ak}{s:bQ}(h:ud m s):eC m s.an:=⟨h.2.1,λx a=>by have:=h.2.2.2 x a;have:=h.2.2.1;omega⟩
def filled(a:bQ)(b:Int):List Int:=kM (λp=>c5 (fn a.an p<=b)) a.an.length
def Oo{a:bQ}{c:Int}(d:Sm a.an):w6 LC a c=c7 (filled a c):=by
 unfold w6 Fc;have e:=GY (n:=a.an.length) d (P:=λb=>A8 LC b a c) (p:=λp=>c5 (fn a.an p<=c)) (f:=λb=>JS LC (a.an.length:Int) a c b.1 b.2) (λi g=>by
  unfold A8;rw[gH (by omega) (by omega),aa]) (λh a=>rfl)
 rw[show LC.loop (λb:List Int×Int=>JS LC (a.an.length:Int) a c b.1 b.2) ([],0)=_ from e,aa,aa]
 rfl
def aqw(a:ak)(fl:List bI)(b:List Int)(h:Int)(v:Fit b)(t:Fit a.ai):Ok (Eh LC a fl b h) λq=>(q.2=0/\eC a q.1.an/\q.1.aa0=h/\lq a fl)\/(q.2≠0/\¬(lq a fl/\cj 0 ((a.ai.length:Int) -1) b/\0<=h/\h<=2147483648)):=by
 have B:a.ai.length<=4611686018427387904:=t;unfold Eh;rw[uW,aa,de];refine aV (λf=>?_) (λf=>ae (.inr ⟨by simp,λg=>f g.1⟩))
 rw[aJ,kw _ _ _ v,aa,de];refine aV (λd=>?_) (λd=>ae (.inr ⟨by simp,λg=>d g.2.1⟩))
 rw[cF,aa,de];refine aV (λl=>?_) (λl=>ae (.inr ⟨by simp,λg=>l g.2.2⟩))
 have A:=f.1.1;have x:=d.len (by omega);rw[B6 (by omega),aa];refine aD (Q:=eC a) ?_ λy u=>?_
 .refine di b.length (λi e=>e.2=(i:Int)/\eC a e.1) _ (λi e o j=>?_) (λe j=>?_) _ ⟨rfl,e6,λz w=>by rw[gx w];omega⟩
  .obtain⟨aK,s⟩:=e;obtain⟨rfl,c⟩:=j;dsimp only at c⊢;have m:b[i]?=c7 b[i]:=c6 o;have k:=d.mem (dd o);generalize b[i]=p at m k;have n:p<(aK.length:Int):=by rw[c.1];omega
   unfold Fg;rw[aC,bn,m,aa,gH k.1 n,aa,iD k.1 n,aa,aJ];exact ae ⟨rfl,c.set _ (by omega)⟩
  .obtain⟨aK,s⟩:=e;obtain⟨rfl,c⟩:=j;dsimp only at c⊢;unfold Fg;rw[aG];exact ae c
 .exact aD (Af f u) λr d=>ae (.inl ⟨rfl,d,rfl,f⟩)
def amZ(a:ak)(fl:List bI)(b:List Int)(h:Int)(v:Fit b)(t:Fit a.ai):Ok (EX LC a fl b h) λq=>(q.2.2=0/\eC a q.1/\q.2.1=h/\lq a fl)\/(q.2.2≠0/\¬(lq a fl/\cj 0 ((a.ai.length:Int) -1) b/\0<=h/\h<=2147483648)):=by
 have B:a.ai.length<=4611686018427387904:=t;unfold EX;rw[uW,aa,de];refine aV (λf=>?_) (λf=>ae (.inr ⟨by simp,λg=>f g.1⟩))
 rw[aJ,kw _ _ _ v,aa,de];refine aV (λd=>?_) (λd=>ae (.inr ⟨by simp,λg=>d g.2.1⟩))
 rw[cF,aa,de];refine aV (λl=>?_) (λl=>ae (.inr ⟨by simp,λg=>l g.2.2⟩))
 have A:=f.1.1;have x:=d.len (by omega);rw[B6 (by omega),aa];refine aD (Q:=eC a) ?_ λy u=>?_
 .refine di b.length (λi e=>e.2=(i:Int)/\eC a e.1) _ (λi e o j=>?_) (λe j=>?_) _ ⟨rfl,e6,λz w=>by rw[gx w];omega⟩
  .obtain⟨aK,s⟩:=e;obtain⟨rfl,c⟩:=j;dsimp only at c⊢;have m:b[i]?=c7 b[i]:=c6 o;have k:=d.mem (dd o);generalize b[i]=p at m k;have n:p<(aK.length:Int):=by rw[c.1];omega
   unfold HM;rw[aC,bn,m,aa,gH k.1 n,aa,iD k.1 n,aa,aJ];exact ae ⟨rfl,c.set _ (by omega)⟩
  .obtain⟨aK,s⟩:=e;obtain⟨rfl,c⟩:=j;dsimp only at c⊢;unfold HM;rw[aG];exact ae c
 .exact aD (Af f u) λr d=>ae (.inl ⟨rfl,d,rfl,f⟩)
def ajz(a:ak)(fl:List bI)(j:ak)(x:List bI)(m:bQ)(v:Int):Ok (uk LC a fl j x m v) λq=>((q.2=0/\eC j q.1.an/\j.ai.length=a.ai.length)\/(q.2≠0/\q.1=m)):=by
 unfold uk;rw[uW,aa,QM,aa,uW,aa,fh (fh (fh rfl)),aa];refine aV (λ_=>ae (.inr ⟨by simp,rfl⟩)) (λn=>?_)
 have k:lq a fl:=dv λg=>n (.inl g)
 have o:ud a m:=dv λg=>n (.inr (.inl g))
 have S:lq j x:=dv λg=>n (.inr (.inr (.inl g)))
 have af:(j.ai.length:Int)=a.ai.length:=dv λg=>n (.inr (.inr (.inr g)))
 rw[ew rfl,aa];refine aV (λ_=>ae (.inr ⟨by simp,rfl⟩)) (λab=>?_)
 have al:=k.1.1;have ah:=k.1.2.1;have I:=o.2.1;have ad:=o.2.2.1;have K:=eC.of o;rw[nS (by omega) (by omega),aa,dk];refine aD (Q:=eC a) ?_ λac P=>?_
 .refine di m.an.length (λi c=>c.2=(i:Int)/\eC a c.1) _ (λi c l e=>?_) (λc e=>?_) _ ⟨rfl,by rw[e6];exact I,λy A=>by rw[gx A];omega⟩
  .obtain⟨aK,t⟩:=c;obtain⟨rfl,d⟩:=e;dsimp only at d⊢;have am:=d.1;have A:=K.2 _ (dd l);unfold Fi;rw[aC,bn,c6 l,aa,bn,c6 (show i<aK.length by omega),aa,dk,c6 (show i<aK.length by omega),aa,aJ];exact ae ⟨rfl,d.set _ (by omega)⟩
  .obtain⟨aK,t⟩:=c;obtain⟨rfl,d⟩:=e;dsimp only at d⊢;unfold Fi;rw[aG];exact ae d
 refine aD (Q:=eC a) ?_ λL C=>?_
 .refine di a.af.length (λi c=>c.2=(i:Int)/\eC a c.1) _ (λi c l e=>?_) (λc e=>?_) _ ⟨rfl,P⟩
  .obtain⟨aK,t⟩:=c;obtain⟨rfl,d⟩:=e;dsimp only at d⊢;have f:=(k.1.2.2.2 _ (dd l)).1;have z:i<fl.length:=by rw[k.2.1];exact l
   have B:=k.2.2 _ (dd z);unfold Ii;rw[aC,bn,c6 l,aa,bn,c6 z];generalize a.af[i]=r at f;generalize fl[i]=F at B;have stp:∀(p q:Int) (w:Bool) (h:List Int),(0<=p/\p<(a.ai.length:Int))->(0<=q/\q<(a.ai.length:Int))->eC a h->Ok (((aj m.an p).bind λy=>bif c5 (y<=v) then(c7 F).bind λX=>(n6 LC a (i:Int) X w).bind λM=>c7 (c5 (0<=M)) else c7 false).bind λR=>bif R then(aj h q).bind λ_=>(h[q.toNat]?).bind λ_=>c7 (h.set q.toNat v) else c7 h) (eC a):=by
    intro p q w h O s u;have D:q<(h.length:Int):=by rw[u.1];exact s.2
    rw[gH O.1 (by omega),aa,aa];refine aD (Q:=λ_=>True) (aV (λ_=>aD (Fe k.1 w B) λ_ _=>ae trivial) (λ_=>ae trivial)) λb _=>?_
    rw[gH s.1 D,aa,iD s.1 D,aa];exact dy (λ_=>ae (u.set _ (by omega))) (λ_=>ae u)
   obtain⟨U,T,V⟩:=stp r.an r.To false aK ⟨f.1,by omega⟩ ⟨f.2.2.1,by omega⟩ d;obtain⟨ai,N,H⟩:=stp r.To r.an true U ⟨f.2.2.1,by omega⟩ ⟨f.1,by omega⟩ V;obtain⟨Z,W,Y⟩:=qQ T;obtain⟨ag,E,J⟩:=qQ N;rw[W,aa,Y,aa,E,aa,J,aa,aJ];exact ae ⟨rfl,H⟩
  .obtain⟨aK,t⟩:=c;obtain⟨rfl,d⟩:=e;dsimp only at d⊢;unfold Ii;rw[aG];exact ae d
 have G:eC j L:=⟨by rw[C.1];omega,C.2⟩;exact aD (Af S G) λr f=>ae (.inl ⟨rfl,f,by omega⟩)
def akv(a:ak)(fl:List bI)(j:ak)(s:List bI)(m:bQ)(w:Int):Ok (yg LC s a fl j m w) λq=>q.1=s/\((q.2.2=0/\eC j q.2.1.an/\j.ai.length=a.ai.length)\/(q.2.2≠0/\q.2.1=m)):=by
 unfold yg;rw[uW,aa,QM,aa,uW,aa,fh (fh (fh rfl)),aa];refine aV (λ_=>ae ⟨rfl,(.inr ⟨by simp,rfl⟩)⟩) (λn=>?_)
 have k:lq a fl:=dv λg=>n (.inl g)
 have o:ud a m:=dv λg=>n (.inr (.inl g))
 have S:lq j s:=dv λg=>n (.inr (.inr (.inl g)))
 have af:(j.ai.length:Int)=a.ai.length:=dv λg=>n (.inr (.inr (.inr g)))
 rw[ew rfl,aa];refine aV (λ_=>ae ⟨rfl,(.inr ⟨by simp,rfl⟩)⟩) (λab=>?_)
 have al:=k.1.1;have ah:=k.1.2.1;have I:=o.2.1;have ad:=o.2.2.1;have K:=eC.of o;rw[nS (by omega) (by omega),aa,dk];refine aD (Q:=eC a) ?_ λac P=>?_
 .refine di m.an.length (λi c=>c.2=(i:Int)/\eC a c.1) _ (λi c l e=>?_) (λc e=>?_) _ ⟨rfl,by rw[e6];exact I,λy A=>by rw[gx A];omega⟩
  .obtain⟨aK,u⟩:=c;obtain⟨rfl,d⟩:=e;dsimp only at d⊢;have am:=d.1;have A:=K.2 _ (dd l);unfold Kc;rw[aC,bn,c6 l,aa,bn,c6 (show i<aK.length by omega),aa,dk,c6 (show i<aK.length by omega),aa,aJ];exact ae ⟨rfl,d.set _ (by omega)⟩
  .obtain⟨aK,u⟩:=c;obtain⟨rfl,d⟩:=e;dsimp only at d⊢;unfold Kc;rw[aG];exact ae d
 refine aD (Q:=eC a) ?_ λL C=>?_
 .refine di a.af.length (λi c=>c.2=(i:Int)/\eC a c.1) _ (λi c l e=>?_) (λc e=>?_) _ ⟨rfl,P⟩
  .obtain⟨aK,u⟩:=c;obtain⟨rfl,d⟩:=e;dsimp only at d⊢;have f:=(k.1.2.2.2 _ (dd l)).1;have z:i<fl.length:=by rw[k.2.1];exact l
   have B:=k.2.2 _ (dd z);unfold Jl;rw[aC,bn,c6 l,aa,bn,c6 z];generalize a.af[i]=r at f;generalize fl[i]=F at B;have stp:∀(p q:Int) (x:Bool) (h:List Int),(0<=p/\p<(a.ai.length:Int))->(0<=q/\q<(a.ai.length:Int))->eC a h->Ok (((aj m.an p).bind λy=>bif c5 (y<=w) then(c7 F).bind λX=>(n6 LC a (i:Int) X x).bind λM=>c7 (c5 (0<=M)) else c7 false).bind λR=>bif R then(aj h q).bind λ_=>(h[q.toNat]?).bind λ_=>c7 (h.set q.toNat w) else c7 h) (eC a):=by
    intro p q x h O t v;have D:q<(h.length:Int):=by rw[v.1];exact t.2
    rw[gH O.1 (by omega),aa,aa];refine aD (Q:=λ_=>True) (aV (λ_=>aD (Fe k.1 x B) λ_ _=>ae trivial) (λ_=>ae trivial)) λb _=>?_
    rw[gH t.1 D,aa,iD t.1 D,aa];exact dy (λ_=>ae (v.set _ (by omega))) (λ_=>ae v)
   obtain⟨U,T,V⟩:=stp r.an r.To false aK ⟨f.1,by omega⟩ ⟨f.2.2.1,by omega⟩ d;obtain⟨ai,N,H⟩:=stp r.To r.an true U ⟨f.2.2.1,by omega⟩ ⟨f.1,by omega⟩ V;obtain⟨Z,W,Y⟩:=qQ T;obtain⟨ag,E,J⟩:=qQ N;rw[W,aa,Y,aa,E,aa,J,aa,aJ];exact ae ⟨rfl,H⟩
  .obtain⟨aK,u⟩:=c;obtain⟨rfl,d⟩:=e;dsimp only at d⊢;unfold Jl;rw[aG];exact ae d
 have G:eC j L:=⟨by rw[C.1];omega,C.2⟩;exact aD (Af S G) λr f=>ae ⟨rfl,(.inl ⟨rfl,f,by omega⟩)⟩
def ia(a:Int):Prop:=0<=a/\a<=2147483648
instance (a:Int):Decidable (ia a):=by unfold ia;infer_instance
def RA(a:cy):Prop:=(ia a.abv/\ia a.eB/\ia a.ku/\ia a.mZ)/\(1<=a.anS/\a.anS<=4)/\(1<=a.pB/\a.pB<=2147483648)/\(if a.sd=true then a.l9=0 else(a.ku<=a.l9/\a.l9<=2147483648)/\a.uV=false)
instance (a:cy):Decidable (RA a):=by unfold RA;infer_instance
def ahx(a:cy):Dg LC a=c7 (c5 (RA a)):=by
 unfold Dg;have m:bO (λk=>xP LC a k) 0=c7 (if ∀i,i<([a.abv,a.eB,a.ku,a.mZ]:List Int).length->(λi:Nat=>!c5 (ia (([a.abv,a.eB,a.ku,a.mZ]:List Int).getD i 0))) i=false then .inr () else .inl ()):=by
  refine oD ([a.abv,a.eB,a.ku,a.mZ]:List Int).length _ () (λi f=>?_) (by unfold xP;rfl)
  have n:i<4:=f;unfold xP;rw[aC,uu f,aa,cF,aa,aJ];show(bif (!c5 (ia _)) then _ else _)=c7 (bif !c5 (ia _) then _ else _)
  cases c5 (ia ([a.abv,a.eB,a.ku,a.mZ].getD i 0)) <;> rfl
 rw[show LC.loop (λk=>xP LC a k) 0=_ from m,aa,cF,aa,cF,aa,cF,aa,lA,fh rfl,aa]
 by_cases c:ia a.abv/\ia a.eB/\ia a.ku/\ia a.mZ
 .rw[if_pos (λi f=>by
   have f:i<4:=f;have:i=0\/i=1\/i=2\/i=3:=by omega
   have j:∀{p:Prop} [Decidable p],p->(!decide p)=false:=λb=>by rw[decide_eq_true b];rfl
   rcases this with rfl |rfl |rfl |rfl
   .exact j c.1
   .exact j c.2.1
   .exact j c.2.2.1
   .exact j c.2.2.2),ei]
  by_cases d:(1<=a.anS/\a.anS<=4)/\1<=a.pB/\a.pB<=2147483648
  .rw[aG];cases e:a.sd with
   |true=>
    simp only[cond_true]
    congr 1
    exact decide_eq_decide.2 ⟨λb=>⟨c,d.1,d.2,by rw[if_pos e];exact b⟩,λb=>by have:=b.2.2.2;rw[if_pos e] at this;exact this⟩
   |false=>
    simp only[cond_false]
    by_cases h:a.ku<=a.l9/\a.l9<=2147483648
    .rw[aC h]
     congr 1
     cases l:a.uV with
     |true=>exact(decide_eq_false (show ¬RA a from λb=>by have:=b.2.2.2;rw[if_neg (by rw[e];simp),l] at this;exact absurd this.2 (by simp))).symm
     |false=>exact(decide_eq_true (show RA a from⟨c,d.1,d.2,by rw[if_neg (by rw[e];simp)];exact⟨h,l⟩⟩)).symm
    .rw[aG h,decide_eq_false (show ¬RA a from λb=>by have:=b.2.2.2;rw[if_neg (by rw[e];simp)] at this;exact h this.1)]
  .rw[aC,decide_eq_false (show ¬RA a from λb=>d ⟨b.2.1,b.2.2.1⟩)]
 .rw[if_neg (λg=>c ⟨by simpa using g 0 (by simp),by simpa using g 1 (by simp),by simpa using g 2 (by simp),by simpa using g 3 (by simp)⟩),ft,decide_eq_false (show ¬RA a from λb=>c b.1)]
def fU(a:cy)(b c:Int):Prop:=a.abv<b\/a.abv=b/\a.eB<c
instance (a:cy) (c b:Int):Decidable (fU a c b):=by unfold fU;infer_instance
def fX(a:cy)(c b:Int):Prop:=a.abv=c/\a.eB=b
def jz(a b:cy):Prop:=fU a b.abv b.eB
instance (a b:cy):Decidable (jz a b):=by unfold jz;infer_instance
def Ia(c:cy)(e a:Int):∃h,rK LC c ⟨e,a⟩=c7 h/\(h<0↔fU c e a)/\(h=0↔fX c e a):=by
 unfold rK;dsimp only;rw[G1,aa,G1,aa];have k:CY LC [kG c.abv e,kG c.eB a]=c7 (if kG c.abv e≠0 then kG c.abv e else kG c.eB a):=by
  unfold CY;generalize kG c.abv e=d;generalize kG c.eB a=b
  by_cases f:d=0
  .rw[if_neg (λj=>j f)]
   by_cases i:b=0
   .subst f i;rw[show LC.loop (λa=>qF LC [0,0] a) 0=c7 (.inr ()) from(iO (a':=1) rfl).trans ((iO (a':=2) rfl).trans (fZ rfl))]
    rfl
   .subst f;have g:qF LC [0,b] 1=c7 (.inr (.inl b)):=by
     unfold qF;rw[aC (by simp),show aj [0,b] 1=c7 b from rfl,aa,aC i]
    rw[show LC.loop (λa=>qF LC [0,b] a) 0=c7 (.inl b) from(iO (a':=1) rfl).trans (fZ g)]
    rfl
  .rw[if_pos f];have g:qF LC [d,b] 0=c7 (.inr (.inl d)):=by
    unfold qF;rw[aC (by simp),show aj [d,b] 0=c7 d from rfl,aa,aC f]
   rw[show LC.loop (λa=>qF LC [d,b] a) 0=c7 (.inl d) from fZ g]
   rfl
 rw[k,aa];refine⟨_,rfl,?_,?_⟩
 .unfold fU kG
  split <;> split <;> (try split) <;> (try split) <;> omega
 .unfold fX kG
  split <;> split <;> (try split) <;> (try split) <;> omega
def VA(a:List cy):Prop:=a.length<=64/\(∀b∈a,RA b)/\a.Pairwise jz
noncomputable instance (a:List cy):Decidable (VA a):=m3 _
def Rl{f:Type}{R:f->f->Prop}(tr:∀a b d,R a b->R b d->R a d):∀c:List f,(∀i (e:i+1<c.length),R c[i] c[i+1])->c.Pairwise R
 |[],_=>.nil
 |[a],_=>List.pairwise_singleton R a
 |a::b::c,e=>by
  have h:=Rl tr (b::c) λi k=>e (i+1) (by simpa using k)
  have j:R a b:=e 0 (by simp);refine l4.2 ⟨λd g=>?_,h⟩
  rcases kl.1 g with rfl |g
  .exact j
  .exact tr _ _ _ j ((l4.1 h).1 d g)
def aka(a:List cy):yE LC a=c7 (c5 (VA a)):=by
 unfold yE
 by_cases k:64<(a.length:Int)
 .rw[aC k,decide_eq_false (λe=>by have:=e.1;omega)]
 rw[aG k];have u:bO (λj=>vH LC a j) 0=c7 (if ∀i,i<a.length->(λi:Nat=>match a[i]? with |some d=>c5 (¬RA d)||(match (if 0<i then a[i -1]? else j5) with |some b=>c5 (¬fU b d.abv d.eB) |none=>false) |none=>false) i=false then .inr () else .inl ()):=by
  refine oD _ _ () (λi c=>?_) (by unfold vH;rw[aG])
  unfold vH;rw[aC,bn,c6 c,aa,ahx,aa,aJ (n:=(i:Int)+1)];simp only[c6 c];have g:(bif c5 (0<(i:Int)) then(aj a (c3 c4 ((i:Int) -1))).bind λo=>(rK LC o (kC.mk a[i].abv a[i].eB)).bind λp=>c7 (c5 (0<=p)) else c7 false)=c7 (match (if 0<i then a[i -1]? else j5) with |some b=>c5 (¬fU b a[i].abv a[i].eB) |none=>false):=by
   by_cases h0:0<i
   .obtain⟨t,r,g,w⟩:=Ia (a[i -1]'(by omega)) a[i].abv a[i].eB;rw[aC,aJ,show(i:Int) -1=((i -1:Nat):Int) by omega,bn,c6 (show i -1<a.length by omega),aa,r,aa,if_pos h0];dsimp only
    congr 1
    apply decide_eq_decide.2
    rw[<-g];omega
   .rw[aG,if_neg h0]
  rw[g,M5 rfl,aa, <-decide_not];cases (c5 (¬RA a[i])||(match (if 0<i then a[i -1]? else j5) with |some b=>c5 (¬fU b a[i].abv a[i].eB) |none=>false)) <;> rfl
 rw[show LC.loop (λj=>vH LC a j) 0=_ from u,aa];have l:(∀i,i<a.length->(λi:Nat=>match a[i]? with |some d=>c5 (¬RA d)||(match (if 0<i then a[i -1]? else j5) with |some b=>c5 (¬fU b d.abv d.eB) |none=>false) |none=>false) i=false)↔VA a:=by
  constructor
  .intro e;refine⟨by omega,λd s=>?_,Rl (R:=jz) (λd b t k v=>by unfold jz fU at*;omega) a λi c=>?_⟩
   .obtain⟨i,c,rfl⟩:=e5.1 s;have:=e i c;simp only[c6 c,j3] at this;exact dv (of_decide_eq_false this.1)
   .have:=e (i+1) c;simp only[c6 c,j3,Nat.zero_lt_succ,if_true,o1,c6 (show i<a.length by omega)] at this;exact dv (of_decide_eq_false this.2)
  .rintro⟨_,m,q⟩ i c;simp only[c6 c,j3];refine⟨decide_eq_false λh=>h (m _ (dd c)),?_⟩
   by_cases h0:0<i
   .rw[if_pos h0,c6 (show i -1<a.length by omega)];exact decide_eq_false λh=>h (h7.1 q (i -1) i (by omega) c (by omega))
   .rw[if_neg h0]
 by_cases f:VA a
 .rw[if_pos (l.2 f),decide_eq_true f];rfl
 .rw[if_neg (λe=>f (l.1 e)),decide_eq_false f];rfl
def alS(e:List cy)(f g:Int)(K:e.Pairwise jz)(O:e.length<=64):Ok (Ec LC e ⟨f,g⟩) λq=>∃n:Nat,q.1=(n:Int)/\n<=e.length/\(∀(a:Nat) c,a<n->e[a]?=c7 c->fU c f g)/\(∀(a:Nat) c,n<=a->e[a]?=c7 c->¬fU c f g)/\(q.2=true->∃c,e[n]?=c7 c/\fX c f g)/\(q.2=false->∀c,e[n]?=c7 c->¬fX c f g):=by
 have A:∀(i a:Nat) c b,i<a->e[i]?=c7 c->e[a]?=c7 b->fU b f g->fU c f g:=λi a c b I d l j=>by
  obtain⟨L,rfl⟩:=dt.1 d;obtain⟨M,rfl⟩:=dt.1 l;have:=h7.1 K i a L M I;unfold jz fU at*;omega
 unfold Ec;refine aD (Q:=λp=>∃n:Nat,p=(n:Int)/\n<=e.length/\(∀(a:Nat) c,a<n->e[a]?=c7 c->fU c f g)/\(∀(a:Nat) c,n<=a->e[a]?=c7 c->¬fU c f g)) ?_ λp t=>?_
 .refine oa (λk:Int×Int=>∃i a:Nat,k=((i:Int),(a:Int))/\i<=a/\a<=e.length/\(∀(h:Nat) c,h<i->e[h]?=c7 c->fU c f g)/\(∀(h:Nat) c,a<=h->e[h]?=c7 c->¬fU c f g)) (λk=>(k.2 -k.1).toNat) _ (λk J=>?_) _ ⟨0,e.length,rfl,p0 _,h8 _,λh c j=>by omega,λh c j d=>by have:=(dt.1 d).1;omega⟩
  obtain⟨i,a,rfl,N,C,y,E⟩:=J;dsimp only;unfold Rt;refine aV (λF=>?_) (λF=>?_)
  .have m:(i+a)/2<e.length:=by omega
   have G:iN .u64 (hQ.wrap (c3 c4 ((i:Int)+(a:Int)))) 1=c7 (((i+a)/2:Nat):Int):=by
    rw[aJ (n:=(i:Int)+a),mB (n:=(i:Int)+a) (by omega) (by omega),AD (by omega),show(2:Int)^ (min (1:Int).toNat hQ.bits)=2 from rfl,j1 _ (by omega)]
    congr 1
   obtain⟨k,u,s,v⟩:=Ia e[(i+a)/2] f g;rw[G,aa,aJ (n:=(((i+a)/2:Nat):Int)) (by omega) (by omega),bn,c6 m,aa,u,aa];refine aD (Q:=λp=>(k<0/\p=((((i+a)/2+1:Nat):Int),(a:Int)))\/(¬k<0/\p=((i:Int),(((i+a)/2:Nat):Int)))) (aV (λo=>?_) (λo=>ae (.inr ⟨o,rfl⟩))) λp t=>?_
   .rw[aJ];exact ae (.inl ⟨o,rfl⟩)
   .rcases t with⟨o,rfl⟩ |⟨o,rfl⟩
    .refine ae ⟨⟨(i+a)/2+1,a,rfl,by omega,C,λh c H d=>?_,E⟩,?_⟩
     .have l:=s.1 o
      by_cases w:h=(i+a)/2
      .subst w;rw[c6 m] at d;injection d with d
       subst d;exact l
      .exact A h _ c _ (by omega) d (c6 m) l
     .dsimp only;omega
    .refine ae ⟨⟨i,(i+a)/2,rfl,by omega,by omega,y,λh c H d l=>?_⟩,?_⟩
     .have D:¬fU e[(i+a)/2] f g:=λj=>o (s.2 j)
      by_cases w:h=(i+a)/2
      .subst w;rw[c6 m] at d;injection d with d
       subst d;exact D l
      .exact D (A _ h _ c (by omega) (c6 m) d l)
     .dsimp only;omega
  .have:i=a:=by omega
   subst this;exact ae ⟨i,rfl,C,y,E⟩
 .obtain⟨n,rfl,z,x,B⟩:=t
  by_cases r:n<e.length
  .obtain⟨k,u,s,v⟩:=Ia e[n] f g;rw[aC,bn,c6 r,aa,u,aa];refine ae ⟨n,rfl,z,x,B,λj=>⟨_,c6 r,v.1 (of_decide_eq_true j)⟩,λj c d=>?_⟩
   rw[c6 r] at d;injection d with d
   subst d;exact λm=>of_decide_eq_false j (v.2 m)
  .rw[aG];exact ae ⟨n,rfl,z,x,B,λj=>by simp at j,λ_ c d=>absurd (dt.1 d).1 r⟩
def ak8{f:List cy}(n:f.Pairwise jz){a:Nat}{e b:cy}(m:f[a]?=c7 e)(c:b.abv=e.abv/\b.eB=e.eB):(f.set a b).Pairwise jz:=by
 refine h7.2 λi k j h o=>?_
 rw[dT] at j h;have d:=h7.1 n i k j h o;obtain⟨p,rfl⟩:=dt.1 m;rw[oo,oo];unfold jz fU at*
 by_cases g:a=i
 .subst g;rw[if_pos rfl,if_neg (by omega),c.1,c.2];exact d
 .rw[if_neg g]
  by_cases l:a=k
  .subst l;rw[if_pos rfl,c.1,c.2];exact d
  .rw[if_neg l];exact d
def ZH{c:List cy}(k:c.Pairwise jz){a:Nat}{b:cy}(v:a<=c.length)(q:∀(d:Nat) e,d<a->c[d]?=c7 e->fU e b.abv b.eB)(m:∀(d:Nat) e,a<=d->c[d]?=c7 e->¬fU e b.abv b.eB)(r:∀e,c[a]?=c7 e->¬fX e b.abv b.eB):(c.take a++[b]++c.drop a).Pairwise jz:=by
 rw[hB,List.pairwise_append];have l:∀g,g∈c.drop a->jz b g:=λg h=>by
  obtain⟨d,j,rfl⟩:=e5.1 h;rw[h5] at j;have f:c[a+d]?=c7 ((c.drop a)[d]'(by rw[h5];exact j)):=by rw[List.getElem_drop];exact c6 (by omega)
  have t:=m (a+d) _ (by omega) f;generalize (c.drop a)[d]'(by rw[h5];exact j)=g at f t;have h0:=r _ (c6 (show a<c.length by omega));have w:=m a _ (h8 _) (c6 (show a<c.length by omega))
  by_cases o:d=0
  .subst o;rw[q8,c6 (show a<c.length by omega)] at f;injection f with f
   subst f;unfold jz fU fX at*;omega
  .obtain⟨u,rfl⟩:=dt.1 f;have:=h7.1 k a (a+d) (by omega) u (by omega);unfold jz fU fX at*;omega
 refine⟨k.sublist (List.take_sublist a c),l4.2 ⟨l,k.sublist (List.drop_sublist a c)⟩,λe s g h=>?_⟩
 obtain⟨i,n,rfl⟩:=e5.1 s;rw[ea] at n;have p:jz ((c.take a)[i]'(by rw[ea];exact n)) b:=by
  refine q i _ (by omega) ?_
  rw[o4];exact c6 (by omega)
 rcases kl.1 h with rfl |h
 .exact p
 .have:=l g h;unfold jz fU at*;omega
def apS(d:List cy)(h j p f:Int):Ok (rk LC d h j p f) λq=>(q.2≠0/\q.1=d)\/(q.2=0/\VA q.1/\(∃c,c∈q.1/\fX c h j)/\∀b,b∈d->∃c,c∈q.1/\fX c b.abv b.eB):=by
 unfold rk;rw[aka,aa,de];refine aV (λU=>?_) (λ_=>ae (.inl ⟨by simp,rfl⟩))
 obtain⟨s,t,w⟩:=U;rw[cF,aa,cF,aa,cF,aa,lA,fh (fh rfl),aa];refine aV (λ_=>ae (.inl ⟨by simp,rfl⟩)) (λk=>?_)
 have E:ia h:=by unfold ia;omega
 have I:ia j:=by unfold ia;omega
 have A:1<=p/\p<=4:=by omega
 refine aD (alS d h j w s) λq O=>?_
 obtain⟨e,C,S,P,V,z,H⟩:=O;obtain⟨X,r⟩:=q;dsimp only at C z H⊢;subst C;rw[cF,aa];have K:r=true->e<d.length:=λk=>by obtain⟨c,a,_⟩:=z k;exact(dt.1 a).1
 by_cases x:0<=f/\f<=2147483648
 rotate_left
 .rw[decide_eq_false x];exact ae (.inl ⟨by simp,rfl⟩)
 have G:ia f:=x;rw[decide_eq_true x];simp only[fe,cond_false];have bad:∃b:Bool,(bif r then(aj d (e:Int)).bind λL=>bif c5 (f<L.ku) then c7 true else(aj d (e:Int)).bind λR=>c7 (c5 (f<R.l9)) else c7 false)=c7 b:=by
  cases r with
  |false=>exact⟨_,rfl⟩
  |true=>
   have l:=K rfl;simp only[cond_true];rw[bn,c6 l,aa,aa,ew rfl];exact⟨_,rfl⟩
 obtain⟨b,M⟩:=bad;rw[M,aa];refine dy (λ_=>ae (.inl ⟨by simp,rfl⟩)) (λ_=>?_)
 cases r with
 |false=>
  simp only[k7,cond_true];refine aV (λ_=>ae (.inl ⟨by simp,rfl⟩)) (λY=>?_)
  rw[wE (cX s (by decide)),aa];have u:D3 LC d [cy.mk h j p f 0 true false 0 1] (e:Int)=c7 (d.take e++[cy.mk h j p f 0 true false 0 1]++d.drop e):=by
   unfold D3 B2;rw[if_pos ⟨by omega,by omega,rfl⟩,dm (by decide) (by omega),aa,dk]
  rw[u,aa];refine ae (.inr ⟨rfl,⟨?_,λc a=>?_,ZH w S P V (H rfl)⟩,⟨cy.mk h j p f 0 true false 0 1,by simp,rfl,rfl⟩,λc a=>⟨c,?_,rfl,rfl⟩⟩)
  .simp only[eo,ea,h5,ez,hL];omega
  .rcases e4.1 a with a |a
   .rcases e4.1 a with a |a
    .exact t c (List.mem_of_mem_take a)
    .rw[e0] at a;subst a;exact⟨⟨E,I,G,by show(0:Int)<=0/\(0:Int)<=2147483648;omega⟩,A,⟨by show(1:Int)<=1;omega,by show(1:Int)<=2147483648;omega⟩,by simp⟩
   .exact t c (List.mem_of_mem_drop a)
  .have:c∈d.take e++d.drop e:=by rw[List.take_append_drop];exact a
   rcases e4.1 this with k |k
   .simp[k]
   .simp[k]
 |true=>
  simp only[fe,cond_false];obtain⟨c,a,v⟩:=z rfl;have l:=K rfl;have N:=t c (fC a);rw[wE (cX s (by decide)),aa,bn,a,aa,dk,a];simp only[aa];have fin:∀g:cy,g.abv=c.abv/\g.eB=c.eB->RA g->Ok (c7 (d.set e g,(0:Int))) λq=>(q.2≠0/\q.1=d)\/(q.2=0/\VA q.1/\(∃c,c∈q.1/\fX c h j)/\∀b,b∈d->∃c,c∈q.1/\fX c b.abv b.eB):=λg n Q=>by
   refine ae (.inr ⟨rfl,⟨by rw[dT];exact s,λF m=>?_,ak8 w a n⟩,⟨g,qa l g,by unfold fX at*;rw[n.1,n.2];exact v⟩,λF m=>?_⟩)
   .rcases ev m with m |rfl
    .exact t F m
    .exact Q
   .obtain⟨i,J,rfl⟩:=e5.1 m
    by_cases u:e=i
    .subst u;rw[c6 J] at a;injection a with a
     exact⟨g,qa l g,by unfold fX;rw[n.1,n.2,a];exact⟨rfl,rfl⟩⟩
    .exact⟨d[i],hP.2 ⟨i,by rw[h9 u];exact c6 J⟩,rfl,rfl⟩
  obtain⟨o,T,D,y⟩:=N;rw[de];refine dy (λB=>?_) (λB=>?_)
  .refine aV (λW=>?_) (λ_=>?_)
   .rw[gv l,aa,set_set];rw[if_pos B] at y;exact fin _ ⟨rfl,rfl⟩ ⟨⟨o.1,o.2.1,o.2.2.1,by unfold ia;dsimp only;omega⟩,A,D,by rw[if_pos B];exact y⟩
   .have:=fin c ⟨rfl,rfl⟩ ⟨o,T,D,y⟩;rw[ou a] at this;exact this
  .rw[aJ];exact fin _ ⟨v.1.symm,v.2.symm⟩ ⟨⟨E,I,G,by unfold ia;dsimp only;omega⟩,A,⟨by dsimp only;omega,by dsimp only;omega⟩,by simp⟩
def uJ(a:List Int):Prop:=(1<=(a.length:Int)/\(a.length:Int)<=12)/\cj 0 127 a
instance (a:List Int):Decidable (uJ a):=by unfold uJ;infer_instance
def Nq{a:List Int}(b:Fit a):xa LC a=c7 (c5 (uJ a)):=by
 unfold xa;rw[cF,aa,kw _ _ _ b,aa];exact fm rfl
def ff(b:bA):Prop:=uJ b.af/\b.aa2.length=b.af.length/\(∀a,a∈b.aa2->0<=a/\a<=2)/\(b.Out=true->∀a,a∈b.aa2->a=2)
instance (a:bA):Decidable (ff a):=by unfold ff;infer_instance
def QJ{a:bA}(e:Fit a.aa2):yh LC a=c7 (c5 (∀c,c∈a.aa2->c=2)):=by
 unfold yh IU JN;have:=fF (l:=a.aa2) (P:=λd=>CE LC d) (p:=λc=>!c5 (c=2)) (f:=λb=>JW LC a.aa2 b) e (λd g=>by
  unfold CE;rw[<-decide_not]) (λb=>rfl)
 rw[show(LC.loop (λb=>JW LC a.aa2 b) 0).bind _=_ from this,aa,gm,aa,ot]
def tA{a:bA}(k:Fit a.af):oL LC a=c7 (c5 (ff a)):=by
 unfold oL;rw[Nq k,aa]
 by_cases d:uJ a.af
 rotate_left
 .rw[aG d,decide_eq_false (λb=>d b.1)]
 rw[aC d]
 by_cases h:(a.aa2.length:Int)=(a.af.length:Int)
 rotate_left
 .rw[aG h,decide_eq_false (λb=>h (by have:=b.2.1;omega))]
 have i:Fit a.aa2:=by show a.aa2.length<=_;have:a.af.length<=_:=k;omega
 have n:zw LC a.aa2=c7 (a.aa2.any λc=>!c5 (0<=c/\c<=2)):=by
  unfold zw F6;have:=fF (l:=a.aa2) (P:=λm=>zz LC m) (p:=λc=>!c5 (0<=c/\c<=2)) (f:=λg=>It LC a.aa2 g) i (λm o=>by
   unfold zz;rw[cF,aa]) (λg=>rfl)
  rw[show(LC.loop (λg=>It LC a.aa2 g) 0).bind _=_ from this,aa,gm]
 rw[aC h,n,aa,ot]
 by_cases e:∀c,c∈a.aa2->0<=c/\c<=2
 rotate_left
 .rw[aG e,decide_eq_false (λb=>e b.2.2.1)]
 rw[aC e,QJ i,aa];cases j:a.Out with
 |false=>simp only[k7,cond_true];rw[decide_eq_true (show ff a from⟨d,by omega,e,λb=>by rw[j] at b;cases b⟩)]
 |true=>
  simp only[fe,cond_false]
  congr 1
  exact decide_eq_decide.2 ⟨λb=>⟨d,by omega,e,λ_=>b⟩,λb=>b.2.2.2 j⟩
def ff.sm{k:bA}(h:ff k):Sm k.af/\Sm k.aa2:=⟨cX (n:=12) (by have:=h.1.1;omega) (by decide),cX (n:=12) (by have:=h.1.1;have:=h.2.1;omega) (by decide)⟩
def Dx{k:bA}(i a b:Int)(j:Fit k.af):Ok (qO LC k i a b) λq=>(q.2≠0/\q.1=k)\/(q.2=0/\ff k/\0<=i/\k.aa2[i.toNat]?=c7 a/\k.Out=false/\q.1=⟨k.af,k.aa2.set i.toNat b,false⟩):=by
 unfold qO;rw[tA j,aa,de];refine aV (λc=>?_) (λ_=>ae (.inl ⟨by simp,rfl⟩))
 have l:=c.1.1;have m:=c.2.1;rw[aJ,cF,aa,de];refine aV (λh=>?_) (λ_=>ae (.inl ⟨by simp,rfl⟩))
 have d:k.aa2[i.toNat]?=c7 (k.aa2[i.toNat]'(by omega)):=c6 (by omega);generalize k.aa2[i.toNat]'(by omega)=v at d;have g:aj k.aa2 i=c7 v:=by unfold aj;rw[if_pos h.1];exact d
 unfold IL;rw[g,aa,bV c.sm.1,aa,bV c.sm.2,aa,aa];dsimp only;rw[g,aa,d,aa]
 by_cases e:v≠a
 .rw[aC e,aa];exact ae (.inl ⟨by simp,rfl⟩)
 .rw[aG e,aa];refine dy (λ_=>ae (.inl ⟨by simp,rfl⟩)) (λf=>ae (.inr ⟨rfl,c,h.1,?_,f,by rw[f]⟩))
  rw[ej.1 e]
def ff.move{k:bA}(h:ff k){i:Nat}{b:Int}(c:0<=b/\b<=2):ff ⟨k.af,k.aa2.set i b,false⟩:=⟨h.1,by show(k.aa2.set i b).length=_;rw[dT];exact h.2.1,λn a=>by
 rcases ev (show n∈k.aa2.set i b from a) with a |rfl
 .exact h.2.2.1 n a
 .exact c,λh=>by cases h⟩
def ap1{k:bA}(e:Fit k.af):Ok (Cu LC k) λq=>(q.2≠0/\q.1=k)\/(q.2=0/\ff k/\k.Out=false/\(∀a,a∈k.aa2->a=2)/\q.1=⟨k.af,k.aa2,true⟩):=by
 unfold Cu;refine aD (Q:=λq=>(q.2≠0/\q.1=k)\/(q.2=0/\ff k/\k.Out=false/\(∀a,a∈k.aa2->a=2)/\q.1=⟨k.af,k.aa2,true⟩)) ?_ λq c=>ae c
 unfold xi;rw[tA e,aa,de];refine aV (λb=>?_) (λ_=>ae (.inl ⟨by simp,rfl⟩))
 unfold EA;rw[QJ (by show k.aa2.length<=_;have:=jZ b.sm.2;omega),bV b.sm.1,bV b.sm.2];simp only[aa];cases f:k.Out with
 |true=>exact ae (.inl ⟨by simp,rfl⟩)
 |false=>
  simp only[cond_true,show(false==true)=false from rfl,cond_false,aa,de];exact aV (λd=>ae (.inr ⟨rfl,b,by simp,d,rfl⟩)) (λ_=>ae (.inl ⟨by simp,rfl⟩))
def Zw{k:bA}(b:Fit k.af):Ok (vQ LC k) λq=>(q.2≠0/\q.1=k)\/(q.2=0/\ff k/\q.1=⟨k.af,k.aa2,false⟩):=by
 unfold vQ;refine aD (Q:=λq=>(q.2≠0/\q.1=k)\/(q.2=0/\ff k/\q.1=⟨k.af,k.aa2,false⟩)) ?_ λq c=>ae c
 unfold xi;rw[tA b,aa,de];refine aV (λa=>?_) (λ_=>ae (.inl ⟨by simp,rfl⟩))
 unfold EA;rw[bV a.sm.1,bV a.sm.2];simp only[aa];cases d:k.Out with
 |false=>exact ae (.inl ⟨by simp,rfl⟩)
 |true=>
  simp only[show(true==false)=false from rfl,cond_false,aa];exact ae (.inr ⟨rfl,a,rfl⟩)
def O5{k:bA}(u:k.af.length<=100)(s:k.aa2.length<=100):Ok (yA LC k) λe=>e.length<=k.af.length/\∀r,r∈e↔∃(i:Nat) (n:Int),k.af[i]?=c7 r/\k.aa2[i]?=c7 n/\n≠0:=by
 unfold yA;refine aD (Q:=λe=>e.length<=k.af.length/\∀r,r∈e↔∃(i:Nat) (n:Int),k.af[i]?=c7 r/\k.aa2[i]?=c7 n/\n≠0) ?_ λe v=>?_
 .refine di k.af.length (λi f=>f.2=(i:Int)/\f.1.length<=i/\∀r,r∈f.1↔∃(a:Nat) (n:Int),a<i/\k.af[a]?=c7 r/\k.aa2[a]?=c7 n/\n≠0) _ (λi f x p=>?_) (λf p=>?_) _ ⟨rfl,h8 _,λr=>⟨λd=>(by cases d),λ⟨a,n,d,_⟩=>by omega⟩⟩
  .obtain⟨e,y⟩:=f;obtain⟨rfl,h,g⟩:=p;dsimp only at h g⊢;have m:k.af[i]?=c7 k.af[i]:=c6 x;generalize k.af[i]=A at m;unfold HU;rw[aC,bn,m,aa];have c:(bif c5 ((i:Int)<(k.aa2.length:Int)) then(aj k.aa2 (i:Int)).bind λw=>c7 (c5 (w≠0)) else c7 false)=c7 (c5 (∃n,k.aa2[i]?=c7 n/\n≠0)):=by
    by_cases d:(i:Int)<(k.aa2.length:Int)
    .have t:k.aa2[i]?=c7 (k.aa2[i]'(by omega)):=c6 (by omega);generalize k.aa2[i]'(by omega)=n at t;rw[aC d,bn,t,aa]
     congr 1
     exact decide_eq_decide.2 ⟨λq=>⟨n,rfl,q⟩,λ⟨z,c,q⟩=>by injection c with c;subst c;exact q⟩
    .rw[aG d]
     congr 1
     exact(decide_eq_false λ⟨n,c,_⟩=>by rw[ih (by omega)] at c;cases c).symm
   rw[c,aa]
   by_cases d:∃n,k.aa2[i]?=c7 n/\n≠0
   .rw[aC d,dm (by decide) (by omega),aa,aa,aJ];refine ae ⟨rfl,by simp;omega,λr=>?_⟩
    dsimp only;rw[e4,g,e0]
    constructor
    .rintro(⟨a,n,j,b⟩ |rfl)
     .exact⟨a,n,by omega,b⟩
     .obtain⟨n,u,s⟩:=d;exact⟨i,n,by omega,m,u,s⟩
    .rintro⟨a,n,j,b,o,l⟩
     by_cases c:a=i
     .subst c;rw[m] at b;injection b with b;exact .inr b.symm
     .exact .inl ⟨a,n,by omega,b,o,l⟩
   .rw[aG d,aa,aJ];refine ae ⟨rfl,by dsimp only;omega,λr=>?_⟩
    dsimp only;rw[g]
    constructor
    .rintro⟨a,n,j,b⟩;exact⟨a,n,by omega,b⟩
    .rintro⟨a,n,j,b,o,l⟩
     by_cases c:a=i
     .subst c;exact absurd ⟨n,o,l⟩ d
     .exact⟨a,n,by omega,b,o,l⟩
  .obtain⟨e,y⟩:=f;obtain⟨rfl,h,g⟩:=p;dsimp only at h g⊢;unfold HU;rw[aG];refine ae ⟨h,λr=>?_⟩
   rw[g];exact⟨λ⟨a,n,j,b⟩=>⟨a,n,b⟩,λ⟨a,n,b⟩=>⟨a,n,(dt.1 b.1).1,b⟩⟩
 .rw[zF (cX (n:=100) (by omega) (by decide)),aa];exact ae ⟨by rw[uP];exact v.1,λr=>by rw[(uK e).mem_iff];exact v.2 r⟩
def rR(a:cd):Prop:=a.bT.length≠0/\cj 0 63 a.bT/\(1<=a.dZ/\a.dZ<=100000)/\1<=a.ed/\a.ed<=100000
instance (a:cd):Decidable (rR a):=by unfold rR;infer_instance
def mW(a:b7):Prop:=(0<=a.aa0/\a.aa0<=2147483648)/\(if a.State=0 then a.dD=0/\a.akU=0/\a.aa0=0 else if a.State=1 then 0<a.dD/\a.akU=0 else(a.State=2\/a.State=3\/a.State=4)/\0<a.dD/\0<a.akU/\a.dD≠a.akU)
instance (a:b7):Decidable (mW a):=by unfold mW;infer_instance
def AH{f:cd}{a:b7}(n:Fit f.bT):oT LC f a=c7 (c5 (rR f/\mW a)):=by
 unfold oT;rw[kw _ _ _ n,aa,cF,aa,cF,aa,cF,aa,lA,fh (fh (fh rfl)),ew rfl,aa]
 by_cases c:rR f/\0<=a.aa0/\a.aa0<=2147483648
 rotate_left
 .rw[aC (by
   refine dv λh=>c ?_
   simp only[not_or,ej] at h;exact⟨⟨by omega,h.2.1,h.2.2.1,h.2.2.2.1⟩,h.2.2.2.2⟩),decide_eq_false (λb=>c ⟨b.1,b.2.1⟩)]
 obtain⟨g,i⟩:=c;rw[aG (by
  have q:=g.1;rintro(b |b |b |b |b)
  .omega
  .exact b g.2.1
  .exact b g.2.2.1
  .exact b g.2.2.2
  .exact b i)]
 have fin:∀(p:Prop) [Decidable p],((if a.State=0 then a.dD=0/\a.akU=0/\a.aa0=0 else if a.State=1 then 0<a.dD/\a.akU=0 else(a.State=2\/a.State=3\/a.State=4)/\0<a.dD/\0<a.akU/\a.dD≠a.akU)↔p)->c7 (decide p)=c7 (c5 (rR f/\mW a)):=λp _ b=>by
  congr 1
  exact decide_eq_decide.2 ⟨λk=>⟨g,i,b.2 k⟩,λm=>b.1 m.2.2⟩
 by_cases h0:a.State=0
 .rw[aC h0];rw[<-fin (a.dD=0/\a.akU=0/\a.aa0=0) (by rw[if_pos h0])]
  congr 1
  rw[h0]
  by_cases l:a.dD=0 <;> by_cases d:a.akU=0 <;> by_cases e:a.aa0=0 <;> simp[l,d,e]
 rw[aG h0]
 by_cases c:a.State=1
 .rw[aC c];rw[<-fin (0<a.dD/\a.akU=0) (by rw[if_neg h0,if_pos c])];exact fm rfl
 rw[aG c];rw[<-fin ((a.State=2\/a.State=3\/a.State=4)/\0<a.dD/\0<a.akU/\a.dD≠a.akU) (by rw[if_neg h0,if_neg c])];have o:(bif c5 (a.State=2) then c7 (c5 (a.State=2)) else(bif c5 (a.State=3) then c7 (c5 (a.State=3)) else c7 (c5 (a.State=4))).bind λj=>c7 j)=c7 (c5 (a.State=2\/a.State=3\/a.State=4)):=by
  by_cases d:a.State=2
  .rw[aC d,decide_eq_true d,decide_eq_true (.inl d)]
  .rw[aG d]
   by_cases e:a.State=3
   .rw[aC e,aa,decide_eq_true e,decide_eq_true (.inr (.inl e))]
   .rw[aG e,aa]
    congr 1
    exact decide_eq_decide.2 ⟨λb=>.inr (.inr b),λb=>by omega⟩
 rw[o,aa];exact fm (fm (fm rfl))
def rz(a:cd)(c:bA)(b:aL):Prop:=rR a/\ff c/\c.Out=true/\b.aA≠[]/\D1 b a.bT
def aeN{c:cd}{d:bA}{b:aL}(f:Fit c.bT)(g:Fit d.af)(k:gF b):Ok (Ah LC c d b) λv=>v=true->rz c d b:=by
 unfold Ah;rw[AH f,aa];refine aV (λi=>?_) (λ_=>ae λa=>by cases a)
 rw[tA g,aa];refine aV (λh=>?_) (λ_=>ae λa=>by cases a)
 refine dy (λj=>?_) (λ_=>ae λa=>by cases a)
 refine aV (λe=>?_) (λ_=>ae λa=>by cases a)
 rw[Vo k f,aa];exact ae λa=>⟨i.1,h,j,λl=>by rw[l] at e;simp at e,of_decide_eq_true a⟩
def B5{r:jf}(e:Bool)(d:Fit r.x.bT)(c:Fit r.k.af)(l:gF r.b):Ok (si LC r e) λb=>b=0->mW r.s/\r.s.State=r.from_/\(r.s.aa0<=r.t/\r.t<=2147483648)/\e=false/\rz r.x r.k r.b:=by
 unfold si;rw[AH d,aa,de];refine aV (λi=>?_) (λ_=>ae λa=>by cases a)
 refine aV (λ_=>ae λa=>by cases a) (λg=>?_)
 unfold zd;have b:(bif c5 (r.s.aa0<=r.t) then c7 (c5 (r.t<=2147483648)) else c7 false)=c7 (c5 (r.s.aa0<=r.t/\r.t<=2147483648)):=fm rfl;rw[b,aa,lA,ew rfl,aa];refine aV (λ_=>ae λa=>by cases a) (λm=>?_)
 refine dy (λ_=>ae λa=>by cases a) (λh=>?_)
 refine aD (Q:=λ_=>True) (aV (λ_=>ae trivial) (λ_=>ae trivial)) λk _=>?_
 refine dy (λ_=>ae λa=>by cases a) (λ_=>?_)
 rw[tA c,aa];refine aD (Q:=λ_=>True) (dy (λ_=>ae trivial) (λ_=>ae trivial)) λk _=>?_
 refine dy (λ_=>ae λa=>by cases a) (λ_=>?_)
 refine aD (aeN d c l) λv f=>?_
 rw[de];refine dy (λj=>ae λ_=>⟨i.2,ej.1 g,by omega,h,f j⟩) (λ_=>ae λa=>by cases a)
def ao0{x:cd}{s:b7}{k:bA}{b:aL}(m d:Int)(n:Fit x.bT)(e:Fit k.af)(l:gF b):Ok (BR LC x s k b m d) λq=>(q.2≠0/\q.1=s)\/(q.2=0/\mW q.1/\q.1.State=1/\rz x k b):=by
 unfold BR;refine aD (B5 (r:=jf.mk x s k b d 0) _ n e l) λo f=>?_
 refine aV (λa=>ae (.inl ⟨a,rfl⟩)) (λa=>?_)
 obtain⟨h,p,j,c,i⟩:=f (ej.1 a);have c:=of_decide_eq_false c;have g:=h.1;dsimp only at j g;exact ae (.inr ⟨rfl,⟨by dsimp only;omega,by rw[if_neg (by simp),if_pos rfl];exact⟨by dsimp only;omega,rfl⟩⟩,rfl,i⟩)
def ajE{x:cd}{s:b7}{k:bA}{b:aL}(g f:Int)(p:Fit x.bT)(l:Fit k.af)(o:gF b):Ok (AJ LC x s k b g f) λq=>(q.2≠0/\q.1=s)\/(q.2=0/\mW q.1/\q.1.State=2/\rz x k b):=by
 unfold AJ;refine aD (Q:=λc=>c=0->mW s/\s.State=1/\(s.aa0<=f/\f<=2147483648)/\(0<g/\g≠s.dD)/\rz x k b) ?_ λc d=>?_
 .refine aV (λe=>?_) (λe=>?_)
  .refine aD (B5 (r:=jf.mk x s k b f 1) _ p l o) λc d=>ae λh0=>?_
   obtain⟨_,_,_,a,_⟩:=d h0;cases a
  .refine aD (B5 (r:=jf.mk x s k b f 1) _ p l o) λc d=>ae λh0=>?_
   obtain⟨i,h,n,a,j⟩:=d h0;exact⟨i,h,n,⟨by omega,of_decide_eq_false a⟩,j⟩
 .refine aV (λe=>ae (.inl ⟨e,rfl⟩)) (λe=>?_)
  obtain⟨i,h,n,a,j⟩:=d (ej.1 e);obtain⟨t,m⟩:=i;rw[if_neg (by omega),if_pos h] at m;exact ae (.inr ⟨rfl,⟨by dsimp only;omega,by rw[if_neg (by simp),if_neg (by simp)];exact⟨.inl rfl,m.1,a.1,λc=>a.2 c.symm⟩⟩,rfl,j⟩)
def X1{x:cd}{s:b7}{k:bA}{b:aL}(d:Int)(n:Bool)(m:Fit x.bT)(g:Fit k.af)(l:gF b):Ok (CM LC x s k b d n) λq=>(q.2≠0/\q.1=s)\/(q.2=0/\mW q.1/\(q.1.State=3\/q.1.State=4)/\rz x k b):=by
 unfold CM;refine aD (B5 (r:=jf.mk x s k b d 2) _ m g l) λp h=>?_
 refine aV (λa=>ae (.inl ⟨a,rfl⟩)) (λa=>?_)
 obtain⟨e,i,j,_,f⟩:=h (ej.1 a);dsimp only at e i j;obtain⟨o,c⟩:=e;rw[if_neg (by omega),if_neg (by omega)] at c;refine dy (λ_=>ae (.inr ⟨rfl,⟨by dsimp only;omega,?_⟩,.inr rfl,f⟩)) (λ_=>ae (.inr ⟨rfl,⟨by dsimp only;omega,?_⟩,.inl rfl,f⟩))
 .rw[if_neg (by simp),if_neg (by simp)];exact⟨.inr (.inr rfl),c.2⟩
 .rw[if_neg (by simp),if_neg (by simp)];exact⟨.inr (.inl rfl),c.2⟩
def Yc{x:cd}{s:b7}(a:Int)(c:Fit x.bT):Ok (BY LC x s a) λq=>(q.2≠0/\q.1=s)\/(q.2=0/\q.1=⟨0,0,0,0⟩):=by
 unfold BY;rw[AH c,aa,de];refine aV (λe=>?_) (λ_=>ae (.inl ⟨by simp,rfl⟩))
 refine aV (λ_=>ae (.inl ⟨by simp,rfl⟩)) (λd=>?_)
 refine aD (Q:=λ_=>True) (by unfold zd;exact aV (λ_=>ae trivial) (λ_=>ae trivial)) λb _=>?_
 rw[de];refine dy (λ_=>?_) (λ_=>ae (.inl ⟨by simp,rfl⟩))
 refine aD (Q:=λ_=>True) (aV (λ_=>ae trivial) (λ_=>ae trivial)) λb _=>?_
 exact dy (λ_=>ae (.inl ⟨by simp,rfl⟩)) (λ_=>ae (.inr ⟨rfl,rfl⟩))
def Xp:mW ⟨0,0,0,0⟩:=⟨by decide,by rw[if_pos rfl];exact⟨rfl,rfl,rfl⟩⟩
def kb(r:aT):Prop:=(0<=r.agX/\r.agX<=31)/\(0<=r.aj6/\r.aj6<=65535)/\(0<=r.aa0/\r.aa0<=2147483648)/\r.aw.length<=20/\cj 1 65535 r.aw
instance (r:aT):Decidable (kb r):=by unfold kb;infer_instance
def xF{r:aT}(e:Fit r.aw):lQ LC r=c7 (c5 (kb r)):=by
 unfold lQ;rw[cF,aa,cF,aa,cF,aa,kw _ _ _ e,aa,fm (fm (fm (fm rfl)))]
 congr 1
 apply decide_eq_decide.2
 unfold kb
 constructor
 .rintro⟨b,a,d,f,c⟩;exact⟨b,a,d,by omega,c⟩
 .rintro⟨b,a,d,f,c⟩;exact⟨b,a,d,by omega,c⟩
def fp(a:Int):Nat->List Int
 |0=>[]
 |b+1=>(a/256^b%256)::fp a b
def ly(b:Int):∀a,(fp b a).length=a
 |0=>rfl
 |a+1=>by unfold fp;rw[ez,ly b a]
def AO(b:Int):∀a,Bytes (fp b a)
 |0=>Bytes.nil
 |a+1=>by unfold fp;exact Bytes.cons (by omega) (AO b a)
def Qv:∀i:Nat,(2:Int)^ (8*i)=256^i
 |0=>rfl
 |i+1=>by rw[show 8*(i+1)=8*i+8 by omega,Int.pow_add,Qv i,o6];rfl
def IY(i:Nat):(0:Int)<256^i:=Int.pow_pos (by decide)
def put_eq(c:Int)(h0:0<=c)(n:c<=18446744073709551615):∀(a:Nat) (b:List Int),a<=8->b.length<=1000->py LC b c (a:Int)=c7 (b++fp c a):=by
 intro a b e j;unfold py;have f:∀(a:Nat) (b:List Int),a<=8->b.length<=1000+(8 -a)->bO (λd:List Int×Int=>vM LC c d.1 d.2) (b,(a:Int) -1)=c7 (b++fp c a):=by
  intro a
  induction a with
  |zero=>
   intro b _ _;refine fZ ?_
   dsimp only;unfold vM;rw[aG];simp[fp]
  |succ a i=>
   intro b e j;have k:=IY a;have g:iN .u64 c (hQ.wrap (c3 c4 (8*(((a+1:Nat):Int) -1))))=c7 (c/256^a):=by
    rw[show 8*(((a+1:Nat):Int) -1)=((8*a:Nat):Int) by omega,aJ,mB (by omega) (by omega),AD (by omega),dk,Nat.min_eq_left (show 8*a<=hQ.bits by show 8*a<=64;omega),Qv,j1 _ (by omega)]
   have l:0<=c/256^a:=p6 h0 (by omega);have m:c/256^a<=c:=oj _ h0;have h:IntKind.u8.wrap (c/256^a)=c/256^a%256:=by
    unfold IntKind.wrap;simp[IntKind.bits,IntKind.signed]
   rw[iO (a':=(b++[c/256^a%256],(a:Int) -1))]
   .rw[i _ (by omega) (by simp;omega),hB]
    rfl
   .dsimp only;unfold vM;rw[aC,g,aa,h,dm (by decide) (by omega),aa,aJ]
    congr 3
    omega
 have:=f a b e (by omega);rw[aJ,show LC.loop (λd:List Int×Int=>vM LC c d.1 d.2) (b,(a:Int) -1)=_ from this,aa]
def l7(c:List Int):Int:=c.foldl (λa b=>a*256+b) 0
def VV(d b:Int)(h0:0<=d)(g:d*256+255<=18446744073709551615)(e:0<=b/\b<=255):bits .or .u64 (d*256) b=d*256+b:=by
 obtain⟨a,rfl⟩:=j7 h0;obtain⟨c,rfl⟩:=j7 e.1;have f:(a:Int)*256=((a*256:Nat):Int):=by omega
 rw[f];show hQ.wrap ((m5 64 ((a*256:Nat):Int) ||| m5 64 (c:Int)).toNat:Int)=_
 rw[BitVec.toNat_or,j2,j2,j6,j6,kh (by omega),kh (by omega)];have:a*256 ||| c=a*256+c:=by
  have:=Nat.shiftLeft_add_eq_or_of_lt (i:=8) (b:=c) (by omega) a;rw[Nat.shiftLeft_eq] at this;exact this.symm
 rw[this,mB (by omega) (by omega)];omega
def L8:∀(c:List Int) (a:Int),Bytes c->0<=a->0<=c.foldl (λa b=>a*256+b) a/\c.foldl (λa b=>a*256+b) a<(a+1)*256^c.length
 |[],a,_,g=>by simp only[List.foldl_nil,hL,Int.pow_zero,Int.mul_one];omega
 |d::c,a,e,g=>by
  have l:=e d (by simp);obtain⟨j,h⟩:=L8 c (a*256+d) (λf i=>e f (by simp[i])) (by omega);rw[p7,ez,o6];refine⟨j,Int.lt_of_lt_of_le h ?_⟩
  have k:=IY c.length;have:(a*256+d+1)*256^c.length<=((a+1)*256)*256^c.length:=Int.mul_le_mul_of_nonneg_right (by omega) (by omega);rw[n2] at this;rw[o7 (256^c.length) 256];exact this
def FY(a:List Int)(e:Bytes a)(r:a.length<=7):jQ LC a=c7 (l7 a):=by
 unfold jQ;have l:=nV (f:=λd:Int×Int=>zf LC a d.1 d.2) a.length (λi=>(l7 (a.take i),(i:Int))) (l7 a) (λi g=>by
  dsimp only;have h:=e _ (dd g);have b:=c6 g;generalize a[i]=c at h b;have m:=L8 (a.take i) 0 (e.take i) (ey 0);have k:(a.take i).length=i:=by rw[ea];omega
  rw[k] at m;have s:(256:Int)^i<=256^6:=by
   have:=Nat.pow_le_pow_right (show 256>0 by decide) (show i<=6 by omega);have q:((256^i:Nat):Int)=(256:Int)^i:=by rw[pc];rfl
   have t:((256^6:Nat):Int)=(256:Int)^6:=by rw[pc];rfl
   omega
  have p:(256:Int)^6=281474976710656:=rfl;have o:0<=l7 (a.take i)/\l7 (a.take i)<281474976710656:=by unfold l7;omega
  unfold zf;rw[aC,bn,b,aa,ahO (by omega),show(2:Int)^ (min (8:Int).toNat hQ.bits)=256 from rfl,mB (n:=l7 (a.take i)*256) (by omega) (by omega),aa,mB (n:=c) (by omega) (by omega),VV _ _ o.1 (by omega) h,aJ];have j:l7 (a.take (i+1))=l7 (a.take i)*256+c:=by
   unfold l7;rw[iE b,List.foldl_append]
   rfl
  rw[j]
  rfl) (by
  dsimp only;unfold zf;rw[aG,gy])
 exact dL l
def SS(c:Int)(h0:0<=c):∀(a:Nat) (d:Int),(fp c a).foldl (λd b=>d*256+b) d=d*256^a+c%256^a
 |0,d=>by simp[fp]
 |a+1,d=>by
  unfold fp;rw[p7,SS c h0 a,o6,Int.add_mul];have j:=IY a;have g:c%(256^a*256)=c/256^a%256*256^a+c%256^a:=by
   have e:=kc c (256^a*256);have k:=kc c (256^a);have h:=kc (c/256^a) 256;have f:c/ (256^a*256)=c/256^a/256:=(Int.ediv_ediv_of_nonneg (by omega)).symm;rw[f] at e;have i:256^a*256*(c/256^a/256)=256^a*(256*(c/256^a/256)):=n2 _ _ _;rw[i] at e;have m:256^a*(c/256^a)=256^a*(c/256^a%256)+256^a*(256*(c/256^a/256)):=by rw[<-Int.mul_add,h]
   have l:c/256^a%256*256^a=256^a*(c/256^a%256):=o7 _ _;omega
  rw[g,n2,o7 256 (256^a)];omega
def IV{n:Int}{k:Nat}(h0:0<=n)(a:n<256^k):l7 (fp n k)=n:=by
 unfold l7;rw[SS n h0,q6,m6,Int.emod_eq_of_lt h0 a]
def jI(a:List Int):List Int:=a.flatMap λb=>fp b 2
def jr(r:aT):List Int:=fp r.aj6 2++fp r.aa0 6++[(r.aw.length:Int)]++jI r.aw
def Gp(a:List Int):(jI a).length=2*a.length:=by
 induction a with
 |nil=>rfl
 |cons c a b=>unfold jI at b⊢;rw[o8,eo,b,ly,ez];omega
def WJ{r:aT}(j:Fit r.aw):Ex LC r=if kb r then c7 (⟨r.agX,9,jr r⟩,0) else c7 (⟨0,0,[]⟩,6):=by
 unfold Ex;rw[xF j,aa,de]
 by_cases b:kb r
 rotate_left
 .rw[aG b,if_neg b]
 rw[aC b,if_pos b];obtain⟨v,k,p,u,o⟩:=b;have g:=put_eq r.aj6 k.1 (by omega) 2 [] (by decide) (by simp);have m:=put_eq r.aa0 p.1 (by omega) 6 (fp r.aj6 2) (by decide) (by rw[ly];omega);rw[mB (n:=r.aj6) (by omega) (by omega),show py LC [] r.aj6 2=_ from g,aa,mB (n:=r.aa0) (by omega) (by omega),mb,show py LC (fp r.aj6 2) r.aa0 6=_ from m,aa,w8 (by omega) (by omega),dm (by decide) (by simp only[eo,ly];omega),aa];have s:=nV (f:=λa:List Int×Int=>wg LC r a.1 a.2) r.aw.length (λi=>(fp r.aj6 2++fp r.aa0 6++[(r.aw.length:Int)]++jI (r.aw.take i),(i:Int))) (jr r) (λi e=>by
  dsimp only;have t:=o.mem (dd e);have d:=c6 e;generalize r.aw[i]=c at t d;unfold wg;have h:=put_eq c (by omega) (by omega) 2 (fp r.aj6 2++fp r.aa0 6++[(r.aw.length:Int)]++jI (r.aw.take i)) (by decide) (by simp only[eo,ly,Gp,ea,ez,hL];omega);rw[aC,bn,d,aa,mB (n:=c) (by omega) (by omega),show py LC _ c 2=_ from h,aa,aJ];have l:jI (r.aw.take (i+1))=jI (r.aw.take i)++fp c 2:=by
   unfold jI;rw[iE d,List.flatMap_append];simp
  rw[l,hB (_++_++_) (jI _)]
  rfl) (by
  dsimp only;unfold wg;rw[aG,gy]
  rfl)
 have q:LC.loop (λa:List Int×Int=>wg LC r a.1 a.2) (fp r.aj6 2++fp r.aa0 6++[(r.aw.length:Int)],0)=c7 (jr r):=by
  have:=s;simpa[jI] using this
 rw[q,aa]
def WL(r:aT):(jr r).length=9+2*r.aw.length:=by
 unfold jr;simp only[eo,ly,Gp,ez,hL]
def Pl:∀a:List Int,lj (jI a)=a.map λb=>fp b 2
 |[]=>rfl
 |b::a=>by
  unfold jI;rw[o8,km];have c:fp b 2=[b/256^1%256,b/256^0%256]:=rfl;rw[c];show lj (_::_::jI a)=_
  rw[lj,Pl a]
def Nc:∀(b:List Int) (c:List Int),(∀a,a∈b->1<=a/\a<=65535)->c.length+b.length<=100->gW LC (b.map λa=>fp a 2) c=c7 (c++b)
 |[],c,_,_=>by simp[gW]
 |a::b,c,d,f=>by
  have h:=d a (by simp);rw[ez] at f;rw[km,gW,FY _ (AO a 2) (by rw[ly];decide),aa,IV (by omega) (by omega),aJ,dm (by decide) (by omega),aa,Nc b _ (λe g=>d e (by simp[g])) (by simp;omega),hB]
  rfl
def anb{r:aT}(a:kb r):zD LC ⟨r.agX,9,jr r⟩=c7 (r,0):=by
 have g:=a;obtain⟨h,f,l,q,i⟩:=a;have t:=WL r;unfold zD;dsimp only;rw[aG (λp=>p rfl),cF,aa,de,aC h];have c:aj (jr r) 8=c7 (r.aw.length:Int):=by
  rw[show(8:Int)=((8:Nat):Int) from rfl,bn];unfold jr;rw[hB,hB,eH (by rw[ly];decide),ly,eH (by rw[ly];decide),ly]
  rfl
 rw[c,aa];have b:(bif c5 (((jr r).length:Int)<9) then c7 true else c7 (c5 (((jr r).length:Int)≠c3 c4 (9+c3 c4 (2*c3 c4 (r.aw.length:Int))))))=c7 false:=by
  rw[aG,aJ (n:=(r.aw.length:Int)),aJ (n:=2*(r.aw.length:Int)),aJ,decide_eq_false (by omega)]
 rw[b,aa];simp only[cond_false];have j:eG (jr r) 0 2=c7 (fp r.aj6 2):=by
  rw[l8 (by omega) (by omega) (by omega)];unfold jr;simp[fp]
 have e:eG (jr r) 2 8=c7 (fp r.aa0 6):=by
  rw[l8 (by omega) (by omega) (by omega)];unfold jr;simp[fp]
 have d:eG (jr r) 9 ((jr r).length:Int)=c7 (jI r.aw):=by
  rw[l8 (by omega) (by omega) (by omega),dk,gy];unfold jr;simp[fp]
 rw[j,aa,FY _ (AO _ _) (by rw[ly];decide),aa,e,aa,FY _ (AO _ _) (by rw[ly];decide),aa,d,aa];have o:vE LC (jI r.aw) 2=c7 (jI r.aw,2):=by unfold vE;rw[aG (by decide)]
 rw[o,aa,IV (n:=r.aj6) (k:=2) f.1 (by omega),IV (n:=r.aa0) (k:=6) l.1 (by show r.aa0<281474976710656;omega),aJ (n:=r.aj6),aJ (n:=r.aa0)];unfold rA;dsimp only;rw[aC rfl,aC (by rw[Gp];omega),Pl,Nc _ _ (λs m=>i.mem m) (by simp;omega),aa,mb,xF (by show r.aw.length<=_;omega),aa,de];rw[aC (show kb ⟨r.agX,r.aj6,r.aa0,r.aw⟩ from g)]
def abN{x:cZ}{r:aT}(B:Sm x.dl)(u:Sm x.dr)(D:Fit r.aw):Ok (CT LC x r) λq=>q.1.dl.length=x.dl.length/\q.1.dr.length=x.dr.length/\(q.2≠0->q.1=x):=by
 unfold CT;have H:∃b,zY LC x=c7 b/\(b=true->x.dl.length=32/\x.dr.length=32/\(∀n,n∈x.dl->-1<=n/\n<=65535)/\∀n,n∈x.dr->0<=n/\n<=2147483648):=by
  unfold zY
  by_cases m:(x.dl.length:Int)=32
  rotate_left
  .rw[aG m];exact⟨false,rfl,λa=>by cases a⟩
  by_cases t:(x.dr.length:Int)=32
  rotate_left
  .rw[aC m,aG t];exact⟨false,rfl,λa=>by cases a⟩
  have k:Am LC x.dl=c7 (x.dl.any λn=>!c5 (-1<=n/\n<=65535)):=by
   unfold Am GR;have:=fF (l:=x.dl) (P:=λd=>Ap LC d) (p:=λn=>!c5 (-1<=n/\n<=65535)) (f:=λc=>I8 LC x.dl c) (by omega) (λd I=>by
    unfold Ap;rw[cF,aa]) (λc=>rfl)
   rw[show(LC.loop (λc=>I8 LC x.dl c) 0).bind _=_ from this,aa,gm]
  have h:CZ LC x.dr=c7 (x.dr.any λn=>!c5 (0<=n/\n<=2147483648)):=by
   unfold CZ JV;have:=fF (l:=x.dr) (P:=λd=>Dd LC d) (p:=λn=>!c5 (0<=n/\n<=2147483648)) (f:=λc=>FL LC x.dr c) (by omega) (λd I=>by
    unfold Dd;rw[cF,aa]) (λc=>rfl)
   rw[show(LC.loop (λc=>FL LC x.dr c) 0).bind _=_ from this,aa,gm]
  rw[aC m,aC t,k,aa,ot,h,aa,ot]
  by_cases g:∀n,n∈x.dl->-1<=n/\n<=65535
  .rw[aC g];exact⟨_,rfl,λa=>⟨by omega,by omega,g,of_decide_eq_true a⟩⟩
  .rw[aG g];exact⟨false,rfl,λa=>by cases a⟩
 obtain⟨b,k,h⟩:=H;rw[k,aa,de];refine dy (λy=>?_) (λ_=>ae ⟨rfl,rfl,λ_=>rfl⟩)
 obtain⟨J,S,z,G⟩:=h y;rw[xF D,aa,de];refine aV (λF=>?_) (λ_=>ae ⟨rfl,rfl,λ_=>rfl⟩)
 obtain⟨s,R,K,M,N⟩:=F;have i:x.dl[r.agX.toNat]?=c7 (x.dl[r.agX.toNat]'(by omega)):=c6 (by omega);have C:=z _ (dd (show r.agX.toNat<x.dl.length by omega));generalize x.dl[r.agX.toNat]'(by omega)=e at i C;have j:x.dr[r.agX.toNat]?=c7 (x.dr[r.agX.toNat]'(by omega)):=c6 (by omega);have A:=G _ (dd (show r.agX.toNat<x.dr.length by omega));generalize x.dr[r.agX.toNat]'(by omega)=d at j A;have o:aj x.dl r.agX=c7 e:=by unfold aj;rw[if_pos s.1];exact i
 have w:aj x.dr r.agX=c7 d:=by unfold aj;rw[if_pos s.1];exact j
 have E:=abO (v:=r.aj6 -e+65536) (n:=65536) (by omega) (by decide);rw[o,aa,aJ (n:=r.aj6 -e),aJ (n:=r.aj6 -e+65536),D7 (by omega),aa];generalize (r.aj6 -e+65536).tmod 65536=O at E;refine aD (Q:=λ_=>True) (aV (λ_=>aV (λ_=>ae trivial) (λ_=>ae trivial)) (λ_=>ae trivial)) λL _=>?_
 refine dy (λ_=>ae ⟨rfl,rfl,λ_=>rfl⟩) (λ_=>?_)
 rw[bV B,aa,bV u,aa,o,aa,i,aa];refine aV (λ_=>?_) (λ_=>ae ⟨by dsimp only;rw[dT],rfl,λa=>absurd rfl a⟩)
 rw[w,aa,j,aa,aa,aa];exact ae ⟨by dsimp only;rw[dT],by dsimp only;rw[dT],λa=>absurd rfl a⟩
where abO {v n:Int} (h0:0<=v) (hn:1<=n):0<=v.tmod n/\v.tmod n<n:=⟨Int.tmod_nonneg n h0,Int.tmod_lt_of_pos v (by omega)⟩
def Xo{l:List aS}{r:aT}(u:Fit r.aw)(v:∀a,a∈l->0<=a.cR/\a.cR<=60):Ok (Bl LC l r) λq=>q.1.length<=20/\(q.2=0->kb r/\∃a,l[r.agX.toNat]?=c7 a/\∀b,b∈q.1->b.Tag∈r.aw/\b.an=max 0 (r.aa0 -a.cR)/\b.To=r.aa0+a.cR):=by
 unfold Bl;rw[xF u,aa,de];refine aV (λy=>?_) (λ_=>ae ⟨by simp,λh=>by cases h⟩)
 refine aV (λ_=>ae ⟨by simp,λh=>by cases h⟩) (λA=>?_)
 obtain⟨j,w,m,k,t⟩:=y;have e:l[r.agX.toNat]?=c7 (l[r.agX.toNat]'(by omega)):=c6 (by omega);have x:=v _ (dd (show r.agX.toNat<l.length by omega));generalize l[r.agX.toNat]'(by omega)=a at e x;have s:aj l r.agX=c7 a:=by unfold aj;rw[if_pos j.1];exact e
 rw[s,aa];have z:=jm (f:=λb:List dS×Int=>Dq LC r a b.1 b.2) r.aw (λc i=>(c.map λd=>dS.mk r.agX d (max 0 (r.aa0 -a.cR)) (r.aa0+a.cR),i)) (λc=>c.map λd=>dS.mk r.agX d (max 0 (r.aa0 -a.cR)) (r.aa0+a.cR)) (λc B C g=>by
  dsimp only;unfold Dq;have:=iy g;rw[aC (iy g),jg g,aa,aJ (n:=r.aa0 -a.cR),aJ (n:=r.aa0+a.cR),dm (by decide) (by rw[eE];omega),aa,aJ,hK]
  rfl) (by
  dsimp only;unfold Dq;rw[aG])
 refine c8 z ?_
 refine ae ⟨by rw[eE];exact k,λ_=>⟨⟨j,w,m,k,t⟩,a,e,λb o=>?_⟩⟩
 obtain⟨d,p,rfl⟩:=j9.1 o;exact⟨p,rfl,rfl⟩
def jX(f:List aT)(e d:Int)(run:List aT):Prop:=(∀r,r∈run->r∈f/\r.agX=e/\d∉r.aw)/\∀(c:Nat) b a,run[c]?=c7 b->run[c+1]?=c7 a->a.aj6=(b.aj6+1).tmod 65536
def nc(g:List aT)(f e:Int)(d:aS)(c:dC):Prop:=∃run b a,jX g f e run/\run[0]?=c7 b/\run[run.length -1]?=c7 a/\c.an=b.aa0+d.cR/\c.To=a.aa0 -d.cR
def anm{rd:aS}{a b:aT}(d:0<=a.aj6/\a.aj6<=65535):Ok (xH LC rd a b) λv=>v=true->b.aj6=(a.aj6+1).tmod 65536:=by
 unfold xH;rw[aJ,D7 (by omega),aa];refine aV (λc=>?_) (λ_=>ae λc=>by cases c)
 exact aV (λ_=>ae λ_=>c) (λ_=>ae λc=>by cases c)
def GX{k run:List aT}{a:aS}{d b:Int}{out:List dC}(t:∀r,r∈k->kb r)(w:0<=a.cR/\a.cR<=60)(p:jX k d b run)(A:run.length<=400)(y:out.length<=1000)(l:∀c,c∈out->nc k d b a c):
 ∃i,yG LC run a d b out=c7 (pC run a d b [] i)/\xD LC run a d b out=c7 (u32 [] a i d b)/\i.length<=out.length+1/\∀c,c∈i->nc k d b a c:=by
 unfold yG xD
 by_cases j:1<(run.length:Int)
 rotate_left
 .rw[aG j,aG j];exact⟨out,rfl,rfl,by omega,l⟩
 rw[aC j,aC j];have f:run[0]?=c7 (run[0]'(by omega)):=c6 (by omega);have q:=t _ (p.1 _ (dd (show 0<run.length by omega))).1;have o:run[run.length -1]?=c7 (run[run.length -1]'(by omega)):=c6 (by omega);have s:=t _ (p.1 _ (dd (show run.length -1<run.length by omega))).1;generalize run[0]'(by omega)=h at f q;generalize run[run.length -1]'(by omega)=m at o s;have u:aj run 0=c7 h:=by rw[show(0:Int)=((0:Nat):Int) from rfl,bn];exact f
 have v:c3 c4 ((run.length:Int) -1)=((run.length -1:Nat):Int):=by rw[aJ];omega
 have x:=q.2.2.1;have z:=s.2.2.1;rw[v,bn,dk,show(0:Int).toNat=0 from rfl,u,f,o];simp only[aa];rw[aJ (n:=h.aa0+a.cR),aJ (n:=m.aa0 -a.cR)]
 by_cases g:h.aa0+a.cR<m.aa0 -a.cR
 .rw[aC g,aC g,dm (by decide) (by omega),aa,aa];refine⟨_,rfl,rfl,by simp,λc e=>?_⟩
  rcases e4.1 e with e |e
  .exact l c e
  .rw[e0] at e;subst e;exact⟨run,h,m,p,f,o,rfl,rfl⟩
 .rw[aG g,aG g];exact⟨out,rfl,rfl,by omega,l⟩
def jX.nil{a:List aT}{k tag:Int}:jX a k tag []:=⟨λr h=>(by cases h),λc x d h=>by simp at h⟩
def jX.snoc{j run:List aT}{k tag:Int}{r:aT}(h:jX j k tag run)(s:r∈j)(n:r.agX=k)(t:tag∉r.aw)(o:∀x,run[run.length -1]?=c7 x->0<run.length->r.aj6=(x.aj6+1).tmod 65536):jX j k tag (run++[r]):=by
 refine⟨λx a=>?_,λd x l a c=>?_⟩
 .rcases e4.1 a with a |a
  .exact h.1 x a
  .rw[e0] at a;subst a;exact⟨s,n,t⟩
 .by_cases e:d+1<run.length
  .rw[h6 (by omega)] at a c;exact h.2 d x l a c
  .have m:d+1=run.length:=by
    have:=(dt.1 c).1;simp at this;omega
   rw[h6 (by omega)] at a;rw[eH (by omega),m,j8] at c;have c:r=l:=by simpa using c
   subst c;exact o x (by rw[<-m,o1];exact a) (by omega)
def ag3{rs:List aS}(c d:Int)(l:List aT)(ag:∀rd,rd∈rs->0<=rd.cR/\rd.cR<=60)(R:∀r,r∈l->Fit r.aw):Ok (xp LC rs c d l) λq=>q.1.length<=1000/\(q.2=0->0<=c/\∃rd,rs[c.toNat]?=c7 rd/\∀a,a∈q.1->nc l c d rd a):=by
 unfold xp;refine aV (λ_=>ae ⟨by simp,λo=>by cases o⟩) (λau=>?_)
 have am:Ad LC l=c7 (l.any λr=>!c5 (kb r)):=by
  unfold Ad GJ;have:=fF (l:=l) (P:=λs=>Ai LC s) (p:=λr=>!c5 (kb r)) (f:=λn=>I4 LC l n) (by omega) (λs I=>by
   unfold Ai;rw[xF (R s I),aa]) (λn=>rfl)
  rw[show(LC.loop (λn=>I4 LC l n) 0).bind _=_ from this,aa,gm]
 rw[am,aa,HA];refine aV (λ_=>ae ⟨by simp,λo=>by cases o⟩) (λt=>?_)
 have t:∀r,r∈l->kb r:=Classical.byContradiction t;rw[ew rfl,aa];refine aV (λ_=>ae ⟨by simp,λo=>by cases o⟩) (λaq=>?_)
 rw[cF,aa,de];refine aV (λao=>?_) (λ_=>ae ⟨by simp,λo=>by cases o⟩)
 have E:rs[c.toNat]?=c7 (rs[c.toNat]'(by omega)):=c6 (by omega);have A:=ag _ (dd (show c.toNat<rs.length by omega));generalize rs[c.toNat]'(by omega)=rd at E A;have W:aj rs c=c7 rd:=by unfold aj;rw[if_pos (by omega)];exact E
 rw[W,aa];refine aD (Q:=λe=>∃run out,e=qA c d rd run out/\jX l c d run/\run.length<=l.length/\out.length<=l.length/\∀a,a∈out->nc l c d rd a) ?_ λe j=>?_
 .refine di l.length (λi n=>∃out run,n=vI c d rd out run (i:Int)/\jX l c d run/\run.length<=i/\out.length<=i/\∀a,a∈out->nc l c d rd a) _ (λi n L C=>?_) (λn C=>?_) _ ⟨[],[],rfl,jX.nil,h8 _,h8 _,λa ak=>by cases ak⟩
  .obtain⟨out,run,rfl,k,G,D,m⟩:=C;have M:l[i]?=c7 l[i]:=c6 L;have x:=dd L;generalize l[i]=h at M x;have ap:=t h x;show Ok (vj LC l c d rd out run (i:Int)) _
   unfold vj;rw[aC,bn,M,aa];have fin:∀(e:pg) g w,e=ql c d rd g w->jX l c d w->w.length<=i+1->g.length<=i+1->(∀a,a∈g->nc l c d rd a)->Ok (c7 (m0 (vI (Jw e) (KY e) (Kd e) (FE e) (vh e) (c3 c4 ((i:Int)+1))))) λe:oI⊕qt=>match e with
    | .inl S=>∃out run,S=vI c d rd out run ((i+1:Nat):Int)/\jX l c d run/\run.length<=i+1/\out.length<=i+1/\∀a,a∈out->nc l c d rd a
    | .inr e=>∃run out,e=qA c d rd run out/\jX l c d run/\run.length<=l.length/\out.length<=l.length/\∀a,a∈out->nc l c d rd a:=λe g w j Y T af X=>by
    subst j;rw[aJ];exact ae ⟨g,w,rfl,Y,T,af,X⟩
   by_cases B:h.agX≠c
   .rw[aC B,aa];exact alt (fin _ out run rfl k (by omega) (by omega) m) λe j=>by cases e <;> exact j
   .rw[aG B];have J:h.agX=c:=ej.1 B;rw[contains_eq (R h x),aa]
    by_cases z:d∈h.aw
    .rw[aC z];obtain⟨g,v,_,N,y⟩:=GX t A k (by omega) (by omega) m;rw[v,aa];dsimp only;rw[aa];exact alt (fin _ g [] rfl jX.nil (by simp) (by omega) y) λe j=>by cases e <;> exact j
    .rw[aG z];have Z:∃s,(bif c5 (0<(run.length:Int)) then(aj run (c3 c4 ((run.length:Int) -1))).bind λ_=>(run[(c3 c4 ((run.length:Int) -1)).toNat]?).bind λU=>(xH LC rd U h).bind λV=>c7 (!V) else c7 false)=c7 s/\(s=false->∀u,run[run.length -1]?=c7 u->0<run.length->h.aj6=(u.aj6+1).tmod 65536):=by
      by_cases h0:0<(run.length:Int)
      .have ab:c3 c4 ((run.length:Int) -1)=((run.length -1:Nat):Int):=by rw[aJ];omega
       have O:run[run.length -1]?=c7 (run[run.length -1]'(by omega)):=c6 (by omega);have K:=t _ (k.1 _ (dd (show run.length -1<run.length by omega))).1;generalize run[run.length -1]'(by omega)=u at O K;obtain⟨b,al,ah⟩:=anm (rd:=rd) (a:=u) (b:=h) K.2.1;rw[aC h0,ab,bn,dk,O,aa,aa,al,aa];refine⟨!b,rfl,λI ar F _=>?_⟩
       injection F with F
       subst F;exact ah (by simpa using I)
      .rw[aG h0];exact⟨false,rfl,λ_ u _ o=>absurd (by omega) h0⟩
     obtain⟨s,an,ad⟩:=Z;rw[an,aa];cases s with
     |true=>
      obtain⟨g,v,_,N,y⟩:=GX t A k (by omega) (by omega) m;simp only[cond_true];rw[v,aa];rw[aa];have H:bj 48 (vh (ql (KG (pC run rd c d [] g)) (FU (pC run rd c d [] g)) (Fp (pC run rd c d [] g)) (GM (pC run rd c d [] g)) (Hz (pC run rd c d [] g)))) [h]=c7 ([]++[h]):=dm (by decide) (by show([]:List aT).length<=_;simp);rw[H,aa,aa];exact alt (fin _ g ([]++[h]) rfl (jX.nil.snoc x J z λu ac=>by simp at ac) (by simp) (by omega) y) λe j=>by cases e <;> exact j
     |false=>
      simp only[cond_false];rw[aa];have H:bj 48 (vh (ql c d rd out run)) [h]=c7 (run++[h]):=dm (by decide) (by show run.length<=_;omega);rw[H,aa,aa];exact alt (fin _ out (run++[h]) rfl (k.snoc x J z (ad rfl)) (by simp;omega) (by omega) m) λe j=>by cases e <;> exact j
  .obtain⟨out,run,rfl,k,G,D,m⟩:=C;show Ok (vj LC l c d rd out run (l.length:Int)) _
   unfold vj;rw[aG];exact ae ⟨run,out,rfl,k,G,D,m⟩
 .obtain⟨run,out,rfl,k,G,D,m⟩:=j;obtain⟨g,_,v,N,y⟩:=GX t A k (by omega) (by omega) m;have ai:xD LC (Mb (qA c d rd run out)) (MT (qA c d rd run out)) (LJ (qA c d rd run out)) (Tn (qA c d rd run out)) (N2 (qA c d rd run out))=c7 (u32 [] rd g c d):=v;dsimp only;rw[ai,aa];exact ae ⟨by show g.length<=1000;omega,λ_=>⟨by omega,rd,E,y⟩⟩
def LV{a:aS}(e:0<=a.dY/\a.dY<=10)(c:1<=a.dX/\a.dX<=600):Dh LC a=c7 ((a.dY+1)*a.dX):=by
 unfold Dh;have d:0<=(a.dY+1)*a.dX:=Int.mul_nonneg (by omega) (by omega);have b:(a.dY+1)*a.dX<=11*600:=my (by omega) c.2 (by omega) (by decide);rw[aJ (n:=a.dY+1),aJ]
def Hs{o:Type}{z:o}{c:List o}(T:c.length<=1000000){E:o->Option Bool}{p:o->Bool}(O:∀a,a∈c->E a=c7 (p a)){f:List o×Int×Int->Option ((List o×Int×Int)⊕(List o×Int))}
 (y:∀e i g,f (e,i,g)=bif c5 (g<(e.length:Int)) then(aj e g).bind λ_=>(e[g.toNat]?).bind λa=>(E a).bind λK=>(bif (!K) then(aj e i).bind λ_=>(e[i.toNat]?).bind λ_=>c7 (e.set i.toNat a,c3 c4 (i+1)) else c7 (e,i)).bind λd=>c7 (.inl (d.1,d.2,c3 c4 (g+1))) else c7 (.inr (e,i))):
 (bif c5 (gg p c= -1) then c7 c else(bO f (c,gg p c,c3 c4 (gg p c+1))).bind λd=>(eG d.1 d.2 (d.1.length:Int)).bind λ_=>(eG (X.iG z d.2.toNat ((d.1.length:Int).toNat -d.2.toNat) d.1) 0 d.2).bind λa=>c7 a)=c7 (c.filter λa=>!p a):=by
 by_cases h0:gg p c= -1
 .rw[aC h0]
  congr 1
  symm
  refine n0.2 λa l=>?_
  cases m:p a with
  |false=>rfl
  |true=>exact absurd (Aw.2 ⟨a,l,m⟩) (by omega)
 rw[aG h0];have F:0<=gg p c:=by
  unfold gg at h0⊢;cases B:jv (mj p c) 0 c.length with
  |none=>rw[B] at h0;exact absurd rfl h0
  |some b=>
   obtain⟨g,_,_,k,_⟩:=yO B;unfold mj at k;cases l:c[g]? with
   |none=>rw[l] at k;cases k
   |some a=>
    rw[l] at k;cases m:p a with
    |false=>simp only[m,cond_false] at k;cases k
    |true=>simp only[m,cond_true] at k;injection k with k;show 0<=b;omega
 obtain⟨h,P,G,D,N,M⟩:=HN F;have U:=(dt.1 D).1;rw[G,aJ];have I:Ok (bO f (c,(h:Int),(h:Int)+1)) λd=>∃i:Nat,d.2=(i:Int)/\i<=d.1.length/\d.1.take i=c.filter λa=>!p a:=by
  refine di (c.length - (h+1)) (λj e=>∃i:Nat,e.2.1=(i:Int)/\e.2.2=((h+1+j:Nat):Int)/\i<h+1+j/\e.1.length=c.length/\e.1.take i=(c.take (h+1+j)).filter (λa=>!p a)/\∀g,h+1+j<=g->e.1[g]?=c[g]?) _ (λj e R v=>?_) (λe v=>?_) _ ⟨h,rfl,by show(h:Int)+1=_;omega,by omega,rfl,?_,λg _=>rfl⟩
  .obtain⟨aK,H,b⟩:=e;obtain⟨i,rfl,rfl,u,t,q,s⟩:=v;dsimp only at u t q s;have r:h+1+j<c.length:=by omega
   have l:=c6 r;have C:=dd r;generalize c[h+1+j]=a at l C;have x:aK[h+1+j]?=c7 a:=(s _ (h8 _)).trans l;rw[y,aC,bn,x,aa,dk,x,aa,O a C,aa,de];have A:(c.take (h+1+(j+1))).filter (λa=>!p a)=(c.take (h+1+j)).filter (λa=>!p a)++(if p a=true then[] else[a]):=by
    rw[show h+1+(j+1)=(h+1+j)+1 by omega,iE l,o2];cases m:p a <;> simp[m]
   cases m:p a with
   |true=>
    simp only[cond_true,aa];rw[aJ];refine ae ⟨i,rfl,by dsimp only;omega,by omega,t,?_,λg r=>s g (by omega)⟩
    rw[A,m];simpa using q
   |false=>
    have w:i<aK.length:=by omega
    simp only[cond_false];rw[bn,c6 w,aa,dk,c6 w,aa,aa,aJ (n:=(i:Int)+1),aJ];refine ae ⟨i+1,rfl,by dsimp only;omega,by omega,by dsimp only;rw[dT];exact t,?_,λg r=>?_⟩
    .dsimp only;rw[A,m,iE (gv w),n1 (h8 _),q];simp
    .dsimp only;rw[h9 (by omega)];exact s g (by omega)
  .obtain⟨aK,H,b⟩:=e;obtain⟨i,rfl,rfl,u,t,q,s⟩:=v;dsimp only at u t q s;rw[y,aG];refine ae ⟨i,rfl,by dsimp only;omega,?_⟩
   dsimp only;rw[q,hM (by omega)]
  .rw[q8,iE D,o2];simp only[N,fe,hY,not_false_eq_true,List.filter_cons_of_neg,List.filter_nil,p4]
   symm
   refine n0.2 λa l=>?_
   obtain⟨g,r,rfl⟩:=e5.1 l;rw[ea] at r;rw[o4];rw[M g _ (by omega) (c6 (by omega))]
   rfl
 obtain⟨d,L,i,J,Q,k⟩:=I;rw[L,aa,J,l8 (by omega) (by omega) (by omega),aa,dk,dk];have S:(X.iG z i (d.1.length -i) d.1).length=d.1.length:=by
  unfold X.iG;simp only[eo,ea,e6,h5];omega
 rw[l8 (by omega) (by omega) (by omega),aa,dk]
 congr 1
 show((X.iG z i (d.1.length -i) d.1).take i).drop 0=_
 rw[k0, <-k];unfold X.iG;rw[l0 (by rw[ea];omega),q3,qb]
def al9{c:List Int}(ac:c.length<=1000000):Ok (ED LC c) λr=>r.length<=c.length/\∀d,d∈r↔d∈c:=by
 unfold ED;refine aV (λ_=>ae ⟨h8 _,λd=>Iff.rfl⟩) (λT=>?_)
 refine aD (Q:=λf=>match f with | .inl r=>r.length<=c.length/\∀d,d∈r↔d∈c | .inr _=>True) ?_ λf x=>?_
 .refine di (c.length -1) (λa g=>g=((1+a:Nat):Int)) _ (λa g W k=>?_) (λg k=>?_) _ rfl
  .subst k;have v:1+a<c.length:=by omega
   have J:c3 c4 (((1+a:Nat):Int) -1)=(a:Int):=by rw[aJ];omega
   unfold If;rw[aC,bn,c6 v,aa,dk,c6 v,aa,J,bn,c6 (show a<c.length by omega),aa,dk,c6 (show a<c.length by omega),aa];refine aV (λF=>?_) (λ_=>by rw[aJ];exact ae (by dsimp only;omega))
   rw[l8 (by omega) (by omega) (by omega),aa];refine aD (Q:=λf=>∃i:Nat,f.2=(i:Int)/\f.1.length=c.length/\i<=c.length/\∀d,d∈f.1.take i↔d∈c) ?_ λf x=>?_
   .refine di (c.length - (1+a) -1) (λe g=>∃i:Nat,g.2.1=(i:Int)/\g.2.2=((e+1:Nat):Int)/\i<=1+a+e/\g.1.length=c.length/\(∀h,1+a+e<=h->g.1[h]?=c[h]?)/\∀d,d∈g.1.take i↔d∈c.take (1+a+e+1)) _ (λe g y k=>?_) (λg k=>?_) _ ⟨1+a,rfl,rfl,by omega,rfl,λh _=>rfl,λd=>?_⟩
    .obtain⟨aK,E,b⟩:=g;obtain⟨i,rfl,rfl,s,m,j,o⟩:=k;dsimp only at s m j o;have K:1+a+(e+1)<c.length:=by omega
     have q:=c6 K;have p:=c6 (show 1+a+e<c.length by omega);generalize U:c[1+a+(e+1)]=X at q;generalize Z:c[1+a+e]'(by omega)=u at p;have H:aK[1+a+(e+1)]?=c7 X:=(j _ (by omega)).trans q;have R:aK[1+a+e]?=c7 u:=(j _ (by omega)).trans p;have P:(((aK).drop ((1+a:Nat):Int).toNat).take ((c.length:Int).toNat - ((1+a:Nat):Int).toNat)).length=c.length - (1+a):=by
      rw[ea,h5,dk,dk];omega
     have z:∀h:Nat,h<c.length - (1+a)->∃L,aj (((aK).drop ((1+a:Nat):Int).toNat).take ((c.length:Int).toNat - ((1+a:Nat):Int).toNat)) (h:Int)=c7 L:=λh B=>⟨_,by rw[bn];exact c6 (by omega)⟩
     obtain⟨V,D⟩:=z (e+1) (by omega);obtain⟨af,S⟩:=z e (by omega);have M:c3 c4 (((e+1:Nat):Int) -1)=(e:Int):=by rw[aJ];omega
     dsimp only;unfold Kw;rw[aC (by rw[P];omega),D,aa,M,S,aa,dk,dk,H,aa,dk,R,aa,aa,aa];have A:∀d,d∈c.take (1+a+(e+1)+1)↔d∈c.take (1+a+e+1)\/d=X:=λd=>by
      rw[show 1+a+(e+1)+1=(1+a+(e+1))+1 by omega,iE q,e4,e0,show 1+a+(e+1)=1+a+e+1 by omega]
     have C:u∈c.take (1+a+e+1):=by rw[iE p];simp
     by_cases t:X≠u
     .have w:i<aK.length:=by omega
      rw[aC t,bn,c6 w,aa,dk,c6 w,aa,aa,aJ (n:=(i:Int)+1),aJ];refine ae ⟨i+1,rfl,by dsimp only;omega,by omega,by dsimp only;rw[dT];exact m,λh B=>?_,λd=>?_⟩
      .dsimp only;rw[h9 (by omega)];exact j h (by omega)
      .dsimp only;rw[A,iE (gv w),n1 (h8 _),e4,e0,o]
     .have O:=ej.1 t;rw[aG t,aa,aJ];refine ae ⟨i,rfl,by dsimp only;omega,by omega,m,λh B=>j h (by omega),λd=>?_⟩
      dsimp only;rw[A,o];exact⟨.inl,λl=>l.elim id λl=>by rw[l,O];exact C⟩
    .obtain⟨aK,E,b⟩:=g;obtain⟨i,rfl,rfl,s,m,j,o⟩:=k;dsimp only at s m j o;dsimp only;unfold Kw;rw[aG (by rw[ea,h5,dk,dk];omega)];refine ae ⟨i,rfl,m,by omega,λd=>?_⟩
     dsimp only;rw[o,hM (by omega)]
    .dsimp only;have p:=c6 v;have q:=c6 (show a<c.length by omega);rw[show 1+a+0+1=(1+a)+1 by omega,iE p,e4,e0,F];refine⟨.inl,λl=>l.elim id λl=>?_⟩
     have N:c[a]∈c.take (a+1):=by rw[iE q];exact e4.2 (.inr (e0.2 rfl))
     rw[l,show 1+a=a+1 by omega];exact N
   .obtain⟨i,G,ad,Y,I⟩:=x;rw[G,l8 (by omega) (by omega) (by omega),aa,dk,dk];have ab:(X.iG (0:Int) i (f.1.length -i) f.1).length=f.1.length:=by
     unfold X.iG;simp only[eo,ea,e6,h5];omega
    rw[l8 (by omega) (by omega) (by omega),aa,dk];have y:((X.iG (0:Int) i (f.1.length -i) f.1).take i).drop (0:Int).toNat=f.1.take i:=by
     show((X.iG (0:Int) i (f.1.length -i) f.1).take i).drop 0=_
     rw[k0];unfold X.iG;rw[l0 (by rw[ea];omega),q3,qb]
    rw[y];exact ae ⟨by rw[ea];omega,I⟩
  .subst k;unfold If;rw[aG];exact ae trivial
 .cases f with
  |inl r=>exact ae x
  |inr _=>exact ae ⟨h8 _,λd=>Iff.rfl⟩
def akS{a b:List Int}(f:a.length+b.length<=100000):Ok (zT LC a b) λr=>r.length<=a.length+b.length/\∀d,d∈r↔d∈a\/d∈b:=by
 unfold zT He;have i:bO (λc:Int×Int=>ve LC [a,b] c.1 c.2) (0,0)=c7 ((a.length+b.length:Nat):Int):=by
  rw[iO (a':=((a.length:Int),1)),iO (a':=(((a.length+b.length:Nat):Int),2)),fZ (b:=((a.length+b.length:Nat):Int))]
  .rfl
  .dsimp only;unfold ve;rw[aC (by simp),show aj [a,b] 1=c7 b from rfl,aa,aJ (n:=(a.length:Int)+b.length),aG,aJ]
   congr 2
  .dsimp only;unfold ve;rw[aC (by simp),show aj [a,b] 0=c7 a from rfl,aa,aJ (n:=0+(a.length:Int)),aG,aJ,m6]
   rfl
 rw[show LC.loop (λc:Int×Int=>ve LC [a,b] c.1 c.2) (0,0)=_ from i,aa];have k:CW LC ((a.length+b.length:Nat):Int)=c7 []:=by
  unfold CW Ct;rw[aC,nS (by omega) (by omega),aa]
 rw[k,aa];have h:∀d e:List Int,d.length+e.length<=100000->bj 8 d e=c7 (d++e):=λd e f=>pN (by omega)
 have j:bO (λc:List Int×Int=>xV LC [a,b] c.1 c.2) ([],0)=c7 (a++b):=by
  rw[iO (a':=(a,1)),iO (a':=(a++b,2)),fZ (b:=a++b)]
  .rfl
  .dsimp only;unfold xV;rw[aC (by simp),show aj [a,b] 1=c7 b from rfl,aa,h a b f,aa]
   rfl
  .dsimp only;unfold xV;rw[aC (by simp),show aj [a,b] 0=c7 a from rfl,aa,h [] a (by simp;omega),aa,mb]
   rfl
 rw[show LC.loop (λc:List Int×Int=>xV LC [a,b] c.1 c.2) ([],0)=_ from j];simp only[aa];rw[zF (cX (n:=100000) (by rw[eo];exact f) (by decide)),aa];refine aD (al9 (by rw[uP,eo];omega)) λr g=>ae ⟨by have:=g.1;rw[uP,eo] at this;exact this,λd=>?_⟩
 rw[g.2,(uK _).mem_iff,e4]
def lH(b:ak)(a:bE):Prop:=cP b/\cj 0 ((b.ai.length:Int) -1) a.akL/\cj 0 ((b.ai.length:Int) -1) a.dg/\cj 0 ((b.af.length:Int) -1) a.dG/\0<=a.er/\a.er<=2147483648
instance (b:ak) (a:bE):Decidable (lH b a):=by unfold lH;infer_instance
structure lO (e:bE):Prop where
 s:Fit e.akL
 b:Fit e.dg
 h:Fit e.dG
def Jc{c:ak}{e:bE}(d:lO e):rP LC c e=c7 (c5 (lH c e)):=by
 unfold rP;rw[ko,aa]
 by_cases a:cP c
 rotate_left
 .rw[aG a,decide_eq_false (λb=>a b.1)]
 have g:=a.1;have f:=a.2.1;rw[aC a,aJ (n:=(c.ai.length:Int) -1),aJ (n:=(c.af.length:Int) -1),kw _ _ _ d.s,aa,kw _ _ _ d.b,aa,kw _ _ _ d.h,aa,cF,aa,fm (fm (fm rfl))]
 congr 1
 exact decide_eq_decide.2 ⟨λb=>⟨a,b⟩,λb=>b.2⟩
def ahk{a:ak}{b:bE}{p:Int}(d:lO b)(c:Fit a.ai):Bc LC a b p=c7 (c5 (lH a b/\0<=p/\p<=(a.ai.length:Int) -1)):=by
 have e:a.ai.length<=4611686018427387904:=c;unfold Bc;rw[Jc d,aa,aJ,cF,aa];exact fm rfl
def mn(c:ak)(a:cS):Prop:=∃(i:Nat) (r:aZ) (b:Bool),c.af[i]?=c7 r/\a.gX=(i:Int)/\a.from_=(if b then r.To else r.an)/\a.b9=(if b then r.an else r.To)/\a.time=wT c (i:Int) b 2 3 4/\0<=a.time
structure mA (f:cm) (n:Nat):Prop where
 MP:f.n=(n:Int)
 sM:n<=64
 safe:f.safe.length=n
 bad:f.bad.length=n
 num:f.steps.length<=300
 st:∀s,s∈f.steps->(0<=s.from_/\s.from_<(n:Int))/\(0<=s.b9/\s.b9<(n:Int))/\1<=s.time/\s.time<=1000099
def mn.ok{m:ak}(c:cP m){s:cS}(h:mn m s):(0<=s.from_/\s.from_<(m.ai.length:Int))/\(0<=s.b9/\s.b9<(m.ai.length:Int))/\1<=s.time/\s.time<=1000099:=by
 obtain⟨i,r,b,k,_,j,n,o,t⟩:=h;obtain⟨a,e⟩:=Cn c k b;have:=rF m (i:Int) b (u:=2) (d:=3) (l:=4) (by decide);rw[j,n];exact⟨a,e,by omega,by omega⟩
def aol{m:ak}{o:bE}(ad:lH m o):Ok (w9 LC m o) λf=>mA f m.ai.length/\∀a,a∈f.steps->mn m a:=by
 obtain⟨D,A,z,Y,_⟩:=ad;have af:=D.1;have ai:=D.2.1;unfold w9;rw[nS (by omega) (by omega),aa,aa,dk];refine aD (Q:=λe:List Bool=>e.length=m.ai.length) ?_ λW M=>?_
 .refine di m.ai.length (λi a=>a.2=(i:Int)/\a.1.length=m.ai.length) _ (λi a w l=>?_) (λa l=>?_) _ ⟨rfl,e6⟩
  .obtain⟨d,h⟩:=a;obtain⟨rfl,n⟩:=l;dsimp only at n⊢;unfold u5;rw[aC,bn,c6 w,aa,bn,c6 (show i<d.length by omega),aa,dk,c6 (show i<d.length by omega),aa,aJ];exact ae ⟨rfl,by rw[dT];exact n⟩
  .obtain⟨d,h⟩:=a;obtain⟨rfl,n⟩:=l;dsimp only at n⊢;unfold u5;rw[aG];exact ae n
 have J:∀(y:List Int) (g:List Bool->Int->Option ((List Bool×Int)⊕List Bool)) (B:List Bool),cj 0 ((m.ai.length:Int) -1) y->(∀d h,g d h=bif c5 (h<(y.length:Int)) then(aj y h).bind λq=>(aj d q).bind λ_=>(d[q.toNat]?).bind λ_=>c7 (.inl (d.set q.toNat true,c3 c4 (h+1))) else c7 (.inr d))->B.length=m.ai.length->Ok (bO (λa:List Bool×Int=>g a.1 a.2) (B,0)) λe=>e.length=m.ai.length:=by
  intro y g B C H O;have ag:=C.len (by omega);refine di y.length (λi a=>a.2=(i:Int)/\a.1.length=m.ai.length) _ (λi a w l=>?_) (λa l=>?_) _ ⟨rfl,O⟩
  .obtain⟨d,h⟩:=a;obtain⟨rfl,n⟩:=l;dsimp only at n⊢;have x:=c6 w;have I:=C.mem (dd w);generalize y[i]=q at x I;have L:d[q.toNat]?=c7 (d[q.toNat]'(by omega)):=c6 (by omega);have ac:aj d q=c7 (d[q.toNat]'(by omega)):=by unfold aj;rw[if_pos I.1];exact L
   rw[H,aC,bn,x,aa,ac,aa,L,aa,aJ];exact ae ⟨rfl,by rw[dT];exact n⟩
  .obtain⟨d,h⟩:=a;obtain⟨rfl,n⟩:=l;dsimp only at n⊢;rw[H,aG];exact ae n
 refine aD (J o.akL (λd h=>wU LC o d h) W A (λd h=>rfl) M) λj Z=>?_
 refine aD (J o.dg (λd h=>wu LC o d h) (ec m.ai.length false) z (λd h=>rfl) e6) λk T=>?_
 have ah:=Y.len (by omega);refine aD (Q:=λe=>∃c,e=iC (cm.mk (m.ai.length:Int) c j k)/\c.length<=2*m.af.length/\∀a,a∈c->mn m a) ?_ λe s=>?_
 .refine di m.af.length (λi a=>∃c,a=nC (cm.mk (m.ai.length:Int) c j k) (i:Int)/\c.length<=2*i/\∀a,a∈c->mn m a) _ (λi a w l=>?_) (λa l=>?_) _ ⟨[],rfl,h8 _,λa v=>by cases v⟩
  .obtain⟨c,rfl,E,t⟩:=l;have x:=c6 w;generalize m.af[i]=r at x;show Ok (pS LC m o j k (cm.mk (m.ai.length:Int) c j k) (i:Int)) _
   unfold pS;rw[aC,bn,x,aa,contains_eq (by show o.dG.length<=_;omega),aa];have fin:∀(e:lU) p,e=iC (cm.mk (m.ai.length:Int) p j k)->p.length<=2*(i+1)->(∀a,a∈p->mn m a)->Ok (c7 (m0 (nC (ox j k e) (c3 c4 ((i:Int)+1))))) λe:pE⊕lU=>match e with
    | .inl N=>∃c,N=nC (cm.mk (m.ai.length:Int) c j k) ((i+1:Nat):Int)/\c.length<=2*(i+1)/\∀a,a∈c->mn m a
    | .inr e=>∃c,e=iC (cm.mk (m.ai.length:Int) c j k)/\c.length<=2*m.af.length/\∀a,a∈c->mn m a:=λe p s A z=>by
    subst s;rw[aJ];exact ae ⟨p,rfl,A,z⟩
   by_cases K:(i:Int)∈o.dG
   .rw[aC K,aa];exact alt (fin _ c rfl (by omega) t) λe s=>by cases e <;> exact s
   .rw[aG K,AF,aa];have G:∀(c:List cS) (b:Bool),c.length<=2*i+1->(∀a,a∈c->mn m a)->∃p,(bif c5 (0<=wT m (i:Int) b 2 3 4) then(bj 32 c ([(cS.mk (i:Int) (if b then r.To else r.an) (if b then r.an else r.To) (wT m (i:Int) b 2 3 4))]:List cS)).bind λP=>c7 (iC (cm.mk (m.ai.length:Int) P j k)) else c7 (iC (cm.mk (m.ai.length:Int) c j k)))=c7 (iC (cm.mk (m.ai.length:Int) p j k))/\p.length<=c.length+1/\∀a,a∈p->mn m a:=λc b C v=>by
     by_cases F:0<=wT m (i:Int) b 2 3 4
     .rw[aC F,dm (by decide) (by omega),aa];refine⟨_,rfl,by simp,λa u=>?_⟩
      rcases e4.1 u with u |u
      .exact v a u
      .rw[e0] at u;subst u;exact⟨i,r,b,x,rfl,rfl,rfl,rfl,F⟩
     .rw[aG F];exact⟨c,rfl,by omega,v⟩
    obtain⟨R,ab,al,X⟩:=G c false (by omega) t;obtain⟨S,V,am,U⟩:=G R true (by omega) X;refine c8 (m:=qq _ _) ?_ (alt (fin _ S rfl (by omega) U) λe s=>by cases e <;> exact s)
    refine(dL ab).trans ?_
    show((nK LC m (i:Int) true).bind _)=_
    rw[AF,aa];exact(dL V).trans rfl
  .obtain⟨c,rfl,E,t⟩:=l;show Ok (pS LC m o j k (cm.mk (m.ai.length:Int) c j k) (m.af.length:Int)) _
   unfold pS;rw[aG];exact ae ⟨c,rfl,E,t⟩
 .obtain⟨c,rfl,E,t⟩:=s;exact ae ⟨⟨rfl,af,Z,T,by show c.length<=300;omega,λa v=>(t a v).ok D⟩,t⟩
def ahu{b:ak}{c:bE}:DM LC b c=(w9 LC b c).bind λf=>c7 (JJ f):=by
 unfold DM w9;cases k:(gP 1 false (b.ai.length:Int)) with
 |none=>rfl
 |some g=>
  simp only[aa];show((bO (λa:List Bool×Int=>u5 LC b a.1 a.2) (g,0)).bind _)=((bO (λa:List Bool×Int=>u5 LC b a.1 a.2) (g,0)).bind _).bind _
  cases i:bO (λa:List Bool×Int=>u5 LC b a.1 a.2) (g,0) with
  |none=>rfl
  |some h=>
   simp only[aa];show((bO (λa:List Bool×Int=>wU LC c a.1 a.2) (h,0)).bind _)=((bO (λa:List Bool×Int=>wU LC c a.1 a.2) (h,0)).bind _).bind _
   cases l:bO (λa:List Bool×Int=>wU LC c a.1 a.2) (h,0) with
   |none=>rfl
   |some e=>
    simp only[aa];show((bO (λa:List Bool×Int=>wu LC c a.1 a.2) (g,0)).bind _)=((bO (λa:List Bool×Int=>wu LC c a.1 a.2) (g,0)).bind _).bind _
    cases j:bO (λa:List Bool×Int=>wu LC c a.1 a.2) (g,0) with
    |none=>rfl
    |some d=>
     simp only[aa];show((bO (λa:pE=>pS LC b c e d (wK e d a) (wo a)) (nC (cm.mk (b.ai.length:Int) [] e d) 0)).bind _)=((bO (λa:pE=>pS LC b c e d (wK e d a) (wo a)) (nC (cm.mk (b.ai.length:Int) [] e d) 0)).bind _).bind _
     cases bO (λa:pE=>pS LC b c e d (wK e d a) (wo a)) (nC (cm.mk (b.ai.length:Int) [] e d) 0) <;> rfl
def jF{b:Type}{a:List b}{i:Int}(c:b)(h0:0<=i)(d:i<(a.length:Int)):aj a i=c7 (a.getD i.toNat c):=by
 unfold aj;rw[if_pos h0,ee,c6 (by omega)]
 rfl
def get_at{b:Type}{a:List b}{i:Int}(c:b)(h0:0<=i)(d:i<(a.length:Int)):a[i.toNat]?=c7 (a.getD i.toNat c):=by
 rw[ee,c6 (by omega)]
 rfl
def jl(f:cm)(a:cS):Bool:=!(f.safe.getD a.from_.toNat false)&&!(f.bad.getD a.b9.toNat false)
def SH{f:cm}{c:Nat}(b:mA f c){a:cS}(g:a∈f.steps):wJ LC f a=c7 (jl f a):=by
 obtain⟨e,d,_⟩:=b.st a g;have h:=b.safe;have i:=b.bad;unfold wJ jl;rw[jF false e.1 (by omega),aa,jF false d.1 (by omega),aa];cases f.safe.getD a.from_.toNat false <;> rfl
abbrev ig:da:=⟨0,0⟩
def cg(a:List da)(p:Int):da:=a.getD p.toNat ig
def kp(a b:da):Prop:=a.time<b.time\/(a.time=b.time/\a.roads<b.roads)
instance (a b:da):Decidable (kp a b):=by unfold kp;infer_instance
def kx(a:da)(b:cS):da:=⟨a.time+b.time,a.roads+1⟩
def W6(c b:da):zX LC c b=c7 (c5 (kp c b)):=by
 unfold zX
 by_cases d:c.time<b.time
 .rw[aC d,decide_eq_true (show kp c b from .inl d)]
 rw[aG d]
 by_cases e:c.time=b.time
 .rw[aC e]
  congr 1
  exact decide_eq_decide.2 ⟨λa=>.inr ⟨e,a⟩,λa=>a.elim (λa=>absurd a d) λa=>a.2⟩
 .rw[aG e,decide_eq_false (show ¬kp c b from λa=>a.elim d λa=>e a.1)]
def alH{a:List da}{p q:Int}{v:da}(c:0<=p)(d:0<=q)(e:q<(a.length:Int)):cg (a.set q.toNat v) p=if p=q then v else cg a p:=by
 unfold cg;rw[ee,hI]
 by_cases b:p=q
 .subst b;rw[if_pos rfl,if_pos rfl,if_pos (by omega)]
  rfl
 .rw[if_neg b,if_neg (by omega),ee]
def mv(a:da):Nat:=(a.time*1180591620717411303424+a.roads).toNat
def mu(a:List da):Nat:=(a.map mv).sum
def RF:∀(a:List da) (b:Nat) (v:da),b<a.length->mv v<mv (a.getD b ig)->mu (a.set b v)<mu a
 |[],b,v,c,_=>absurd c (by simp)
 |e::a,0,v,_,d=>by
  unfold mu;simp only[hX,km,ng,List.getD_cons_zero] at d⊢;omega
 |e::a,b+1,v,c,d=>by
  have f:=RF a b v (by simpa using c) (by simpa using d);unfold mu at f⊢;simp only[l2,km,ng];omega
structure CI (f:cm) (n:Nat) (c:List da):Prop where
 len:c.length=n
 oV:∀p:Int,0<=p->p<(n:Int)->0<=(cg c p).roads/\(cg c p).roads<=(cg c p).time/\(cg c p).time<=(1152921504606846976:Int)/\((cg c p).time=(1152921504606846976:Int)->(cg c p).roads=0)
 sf:∀p:Int,0<=p->p<(n:Int)->f.safe.getD p.toNat false=true->cg c p=ig
 Ts:∀p:Int,0<=p->p<(n:Int)->f.safe.getD p.toNat false=false->(cg c p).time<(1152921504606846976:Int)->∃s,s∈f.steps/\s.from_=p/\jl f s=true/\¬kp (cg c p) (kx (cg c s.b9) s)
def ae7{f:cm}{d:Nat}(r:mA f d):Ok (bO (λc:List da×Int=>zV LC (ec d ig) f c.1 c.2) (ec d ig,0)) (CI f d):=by
 have v:=r.sM;have u:=r.safe;refine di d (λi c=>c.2=(i:Int)/\c.1.length=d/\∀p:Nat,p<d->c.1.getD p ig=if p<i/\f.safe.getD p false=false then⟨(1152921504606846976:Int),0⟩ else ig) _ (λi c t m=>?_) (λc m=>?_) _ ⟨rfl,e6,λp k=>?_⟩
 .obtain⟨s,a⟩:=c;obtain⟨rfl,j,e⟩:=m;dsimp only at j e⊢;unfold zV;have o:=e i t;rw[if_neg (by omega)] at o;rw[aC (by rw[e6];omega),jF false (by omega) (by omega),aa,jF ig (by omega) (by omega),aa,get_at ig (by omega) (by omega),aa,dk,o,aJ];cases h:f.safe.getD i false with
  |true=>
   simp only[fe,cond_false,aa];refine ae ⟨rfl,j,λp k=>?_⟩
   dsimp only;rw[e p k]
   by_cases l:p=i
   .subst l;rw[if_neg (by omega),if_neg (by rw[h];simp)]
   .have:(p<i/\f.safe.getD p false=false)↔(p<i+1/\f.safe.getD p false=false):=⟨λa=>⟨by omega,a.2⟩,λa=>⟨by omega,a.2⟩⟩
    by_cases b:p<i/\f.safe.getD p false=false
    .rw[if_pos b,if_pos (this.1 b)]
    .rw[if_neg b,if_neg (λa=>b (this.2 a))]
  |false=>
   simp only[k7,cond_true,aa];refine ae ⟨rfl,by dsimp only;rw[dT];exact j,λp k=>?_⟩
   dsimp only;rw[ee,hI]
   by_cases l:i=p
   .subst l;rw[if_pos rfl,if_pos (by omega),if_pos ⟨by omega,h⟩]
    rfl
   .rw[if_neg l, <-ee,e p k];have:(p<i/\f.safe.getD p false=false)↔(p<i+1/\f.safe.getD p false=false):=⟨λa=>⟨by omega,a.2⟩,λa=>⟨by omega,a.2⟩⟩
    by_cases b:p<i/\f.safe.getD p false=false
    .rw[if_pos b,if_pos (this.1 b)]
    .rw[if_neg b,if_neg (λa=>b (this.2 a))]
 .obtain⟨s,a⟩:=c;obtain⟨rfl,j,e⟩:=m;dsimp only at j e⊢;unfold zV;rw[aG (by rw[e6];omega)];have n:∀p:Int,0<=p->p<(d:Int)->cg s p=if f.safe.getD p.toNat false=false then⟨(1152921504606846976:Int),0⟩ else ig:=λp h0 g=>by
   unfold cg;rw[e p.toNat (by omega)]
   by_cases b:f.safe.getD p.toNat false=false
   .rw[if_pos b,if_pos ⟨by omega,b⟩]
   .rw[if_neg b,if_neg (λa=>b a.2)]
  refine ae ⟨j,λp h0 g=>?_,λp h0 g h=>?_,λp h0 g h q=>?_⟩
  .rw[n p h0 g]
   split <;> simp
  .rw[n p h0 g,h];rfl
  .rw[n p h0 g,if_pos h] at q;exact absurd q (by simp)
 .rw[if_neg (by omega),ee,hq,if_pos k]
  rfl
def ab5{f:cm}{n:Nat}(D:mA f n){e:List da}(h0:CI f n e):Ok (bO (λa:List da×Bool×Int=>AB LC f a.1 a.2.1 a.2.2) (e,false,0)) λs=>CI f n s.1/\(s.2=true->mu s.1<mu e)/\(s.2=false->s.1=e/\∀a,a∈f.steps->jl f a=true->(cg e a.b9).time<(1152921504606846976:Int)->¬kp (kx (cg e a.b9) a) (cg e a.from_)):=by
 have ag:=D.num;refine di f.steps.length (λi a=>a.2.2=(i:Int)/\CI f n a.1/\(a.2.1=true->mu a.1<mu e)/\(a.2.1=false->a.1=e/\∀(h:Nat) j,h<i->f.steps[h]?=c7 j->jl f j=true->(cg e j.b9).time<(1152921504606846976:Int)->¬kp (kx (cg e j.b9) j) (cg e j.from_))) _ (λi a K F=>?_) (λa F=>?_) _ ⟨rfl,h0,(by intro d;cases d),λ_=>⟨rfl,λh j y=>absurd y (by omega)⟩⟩
 .obtain⟨c,b,m⟩:=a;obtain⟨rfl,g,q,k⟩:=F;dsimp only at g q k⊢;have H:=c6 K;have E:=dd K;generalize f.steps[i]=a at H E;obtain⟨z,A,ac,ad⟩:=D.st a E;have Y:=g.len;have ab:=g.oV a.b9 A.1 A.2;have O:=g.oV a.from_ z.1 z.2;unfold AB;rw[aC,bn,H,aa,jF ig A.1 (by omega),aa,get_at ig A.1 (by omega),aa,aa,aa,SH D E,aa];rw[jF ig z.1 (by omega),get_at ig z.1 (by omega)];rw[show oq c a.b9.toNat ig=cg c a.b9 from rfl,show oq c a.from_.toNat ig=cg c a.from_ from rfl,aJ (n:=(cg c a.b9).time+a.time),aJ (n:=(cg c a.b9).roads+1)];simp only[aa,W6];have R:(bif jl f a then(bif c5 ((cg c a.b9).time<1152921504606846976) then c7 (c5 (kp (da.mk ((cg c a.b9).time+a.time) ((cg c a.b9).roads+1)) (cg c a.from_))) else c7 false) else c7 false)=c7 (c5 (jl f a=true/\(cg c a.b9).time<(1152921504606846976:Int)/\kp (kx (cg c a.b9) a) (cg c a.from_))):=by
   cases r:jl f a with
   |false=>simp
   |true=>
    simp only[cond_true,true_and]
    by_cases B:(cg c a.b9).time<(1152921504606846976:Int)
    .rw[aC B]
     congr 1
     exact decide_eq_decide.2 ⟨λm=>⟨B,m⟩,λm=>m.2⟩
    .rw[aG B,decide_eq_false (λm=>B m.1)]
  refine c8 R ?_
  by_cases u:jl f a=true/\(cg c a.b9).time<(1152921504606846976:Int)/\kp (kx (cg c a.b9) a) (cg c a.from_)
  .rw[aC u,aa,aJ];obtain⟨u1,u2,u3⟩:=u;have N:a.b9≠a.from_:=λd=>by
    rw[d] at u3;rcases u3 with u3 |u3
    .have:(cg c a.from_).time+a.time<(cg c a.from_).time:=u3;omega
    .have:(cg c a.from_).time+a.time=(cg c a.from_).time:=u3.1;omega
   have Z:(cg c a.b9).time+a.time<(1152921504606846976:Int):=by
    rcases u3 with u3 |u3
    .have:(cg c a.b9).time+a.time<(cg c a.from_).time:=u3;omega
    .have V:(cg c a.b9).time+a.time=(cg c a.from_).time:=u3.1;have P:(cg c a.b9).roads+1<(cg c a.from_).roads:=u3.2;have af:=O.2.2.2;omega
   have S:f.safe.getD a.from_.toNat false=false:=by
    unfold jl at u1;cases d:f.safe.getD a.from_.toNat false with
    |false=>rfl
    |true=>rw[d] at u1;simp at u1
   have o:∀p:Int,0<=p->cg (c.set a.from_.toNat (da.mk ((cg c a.b9).time+a.time) ((cg c a.b9).roads+1))) p=if p=a.from_ then kx (cg c a.b9) a else cg c p:=λp w=>alH w z.1 (by omega)
   have G:mu (c.set a.from_.toNat (da.mk ((cg c a.b9).time+a.time) ((cg c a.b9).roads+1)))<mu c:=by
    refine RF _ _ _ (by omega) ?_
    show mv (kx (cg c a.b9) a)<mv (cg c a.from_)
    unfold mv kx;dsimp only;rcases u3 with u3 |u3
    .have:(cg c a.b9).time+a.time<(cg c a.from_).time:=u3;omega
    .have V:(cg c a.b9).time+a.time=(cg c a.from_).time:=u3.1;have P:(cg c a.b9).roads+1<(cg c a.from_).roads:=u3.2;omega
   refine ae ⟨by dsimp only;omega,⟨by dsimp only;rw[dT];exact Y,λp l x=>?_,λp l x t=>?_,λp l x t C=>?_⟩,λ_=>?_,(by intro d;cases d)⟩
   .dsimp only;rw[o p l]
    split
    .unfold kx;dsimp only;omega
    .exact g.oV p l x
   .dsimp only;rw[o p l,if_neg (λd=>by rw[d,S] at t;cases t)];exact g.sf p l x t
   .dsimp only at C⊢;rw[o p l] at C⊢
    by_cases w:p=a.from_
    .rw[if_pos w];refine⟨a,E,w.symm,u1,?_⟩
     rw[o _ A.1,if_neg N];intro d;rcases d with d |d
     .exact absurd d (q4 _)
     .exact absurd d.2 (q4 _)
    .rw[if_neg w] at C⊢;obtain⟨v,I,W,Q,J⟩:=g.Ts p l x t C;refine⟨v,I,W,Q,?_⟩
     rw[o _ (D.st v I).2.1.1]
     split
     .rename_i M;intro d;refine J ?_
      rw[M];unfold kp kx at d u3⊢;dsimp only at d u3⊢;omega
     .exact J
   .dsimp only;cases b with
    |true=>exact Nat.lt_trans G (q rfl)
    |false=>rw[(k rfl).1] at G⊢;exact G
  .rw[aG u,aa,aJ];refine ae ⟨by dsimp only;omega,g,q,λd=>⟨(k d).1,λh j y r=>?_⟩⟩
   by_cases U:h<i
   .exact(k d).2 h j U r
   .have:h=i:=by omega
    subst this;rw[H] at r;injection r with r
    subst r;rw[(k d).1] at u;exact λL X T=>u ⟨L,X,T⟩
 .obtain⟨c,b,m⟩:=a;obtain⟨rfl,g,q,k⟩:=F;dsimp only at g q k⊢;unfold AB;rw[aG];refine ae ⟨g,q,λd=>⟨(k d).1,λa o=>?_⟩⟩
  obtain⟨h,y,rfl⟩:=e5.1 o;exact(k d).2 h _ y (c6 y)
structure N7 (f:cm) (n:Nat) (c:List da):Prop where
 ci:CI f n c
 nx:∀p:Int,0<=p->p<(n:Int)->f.safe.getD p.toNat false=false->(cg c p).time<(1152921504606846976:Int)->∃s,s∈f.steps/\s.from_=p/\jl f s=true/\cg c p=kx (cg c s.b9) s
def ajU{f:cm}{i:Nat}(d:mA f i):Ok (Bg LC f) (N7 f i):=by
 have K:=d.sM;unfold Bg;rw[d.MP,nS (by omega) (by omega),aa,dk];refine aD (ae7 d) λH y=>?_
 refine aD (Q:=N7 f i) ?_ λJ u=>ae u
 refine oa (λa=>CI f i a.1/\(a.2=false->∀c,c∈f.steps->jl f c=true->(cg a.1 c.b9).time<(1152921504606846976:Int)->¬kp (kx (cg a.1 c.b9) c) (cg a.1 c.from_))) (λa=>2*mu a.1+(if a.2 then 1 else 0)) _ (λa B=>?_) _ ⟨y,(by intro l;cases l)⟩
 obtain⟨e,b⟩:=a;obtain⟨g,m⟩:=B;dsimp only at g m⊢;unfold Tg;cases b with
 |true=>
  rw[cond_true];refine aD (ab5 d g) λv j=>ae ⟨⟨j.1,λl=>?_⟩,?_⟩
  .obtain⟨s,C⟩:=j.2.2 l;dsimp only;rw[s];exact C
  .dsimp only;cases o:v.2 with
   |true=>have:=j.2.1 o;simp;omega
   |false=>rw[(j.2.2 o).1];simp
 |false=>
  rw[cond_false];refine ae ⟨g,λp D A x w=>?_⟩
  obtain⟨a,k,n,q,h⟩:=g.Ts p D A x w;obtain⟨L,r,G,I⟩:=d.st a k;have F:=g.oV a.b9 r.1 r.2;refine⟨a,k,n,q,?_⟩
  have t:(cg e a.b9).time<(1152921504606846976:Int):=by
   unfold kp kx at h;dsimp only at h;omega
  have:=m rfl a k q t;rw[n] at this;unfold kp kx at h this;unfold kx;dsimp only at h this;have E:(cg e p).time=(cg e a.b9).time+a.time:=by omega
  have z:(cg e p).roads=(cg e a.b9).roads+1:=by omega
  rw[<-E, <-z]
def lL(f:cm):Int->List cS->Int->Prop
 |c,[],b=>c=b
 |c,a::d,b=>a∈f.steps/\jl f a=true/\a.from_=c/\lL f a.b9 d b
def lL.snoc{f:cm}:∀{a:Int} {d:List cS} {b:Int},lL f a d b->∀{s:cS},s∈f.steps->jl f s=true->s.from_=b->lL f a (d++[s]) s.b9
 |a,[],b,h,s,e,c,j=>⟨e,c,j.trans (show a=b from h).symm,rfl⟩
 |a,k::d,b,h,s,e,c,j=>⟨h.1,h.2.1,h.2.2.1,lL.snoc h.2.2.2 e c j⟩
def gz(a:List cS):Int:=(a.map (·.time)).sum
structure mC (f:cm) (p:Int) (ss:List cS):Prop where
 ex:∃q,lL f p ss q/\0<=q/\f.safe.getD q.toNat false=true
 nd:(p::ss.map (·.b9)).Nodup
def lL.mem{f:cm}:∀{a:Int} {d:List cS} {b:Int},lL f a d b->∀s,s∈d->s∈f.steps/\jl f s=true
 |a,[],b,h,s,c=>by cases c
 |a,e::d,b,h,s,c=>by
  rcases kl.1 c with rfl |c
  .exact⟨h.1,h.2.1⟩
  .exact lL.mem h.2.2.2 s c
def Rv{n:Nat}{b:List Int}(d:b.Nodup)(c:∀a,a∈b->0<=a/\a<(n:Int)):b.length<=n:=by
 have:=Fb b ((List.range n).map Int.ofNat) d λa e=>by
  obtain⟨h0,f⟩:=c a e;exact j9.2 ⟨a.toNat,mx.2 (by omega),by show(a.toNat:Int)=a;omega⟩
 simpa using this
def mC.len{f:cm}{n:Nat}(e:mA f n){p:Int}(d:0<=p/\p<(n:Int)){c:List cS}(h:mC f p c):c.length<n:=by
 obtain⟨q,j,_⟩:=h.ex;have:=Rv (n:=n) h.nd λx a=>by
  rcases kl.1 a with rfl |a
  .exact d
  .obtain⟨s,k,rfl⟩:=j9.1 a;exact(e.st s (j.mem s k).1).2.1
 simp at this;omega
def KZ{f:cm}{e:Nat}(b:mA f e):∀{ss:List cS},(∀a,a∈ss->a∈f.steps)->0<=gz ss/\gz ss<=1000099*(ss.length:Int)
 |[],_=>by simp[gz]
 |a::ss,c=>by
  have g:=KZ b (ss:=ss) λd h=>c d (by simp[h])
  have:=(b.st a (c a (by simp))).2.2;unfold gz at g⊢;simp only[km,ng,ez];omega
def amX(a:List cS)(b:cS):gz (a++[b])=gz a+b.time:=by
 unfold gz;rw[hK,List.sum_append];simp
def sG(f:cm)(b:List da)(c:Int)(a:cS):Bool:=c5 (a.from_=c/\jl f a=true/\(cg b a.b9).time=(cg b c).time -a.time/\(cg b a.b9).roads=(cg b c).roads -1)
def ab4{f:cm}{n:Nat}(i:mA f n){c:List da}(h:CI f n c){b:Int}(g:0<=b/\b<(n:Int)){a:cS}(j:a∈f.steps):EN LC a b f c=c7 (sG f c b a):=by
 obtain⟨p,e,s,l⟩:=i.st a j;have q:=h.len;have m:=h.oV a.b9 e.1 e.2;have o:=h.oV b g.1 g.2;unfold EN sG
 by_cases d:a.from_=b
 rotate_left
 .rw[aG d,decide_eq_false (λk=>d k.1)]
 rw[aC d,SH i j,aa];cases r:jl f a with
 |false=>rw[cond_false,decide_eq_false (by simp)]
 |true=>
  rw[cond_true,jF ig e.1 (by omega),aa,jF ig g.1 (by omega)];simp only[aa];rw[show oq c a.b9.toNat ig=cg c a.b9 from rfl,show oq c b.toNat ig=cg c b from rfl,aJ (n:=(cg c b).time -a.time),aJ (n:=(cg c b).roads -1)]
  congr 1
  rw[ma];simp[d]
def LA{f:cm}{m:Nat}(g:mA f m){p:Int}(v:0<=p/\p<(m:Int)):Ok (yN LC f p) λr=>r.2.2.2=true->∃a,mC f p a/\r.1=a.map (·.gX)/\r.2.1=p::a.map (·.b9)/\r.2.2.1=gz a:=by
 have af:=g.sM;have ac:=g.safe;have ah:=g.num;unfold yN;refine aD (ajU g) λc k=>?_
 have ai:=k.ci.len;rw[jF ig v.1 (by omega),aa];refine aV (λ_=>ae (by intro P;cases P)) (λF=>?_)
 have H:(cg c p).time<(1152921504606846976:Int):=by
  have:¬(1152921504606846976:Int)<=(cg c p).time:=F;omega
 refine aD (Q:=λs=>∃a,mC f p a/\s.2=a.map (·.gX)/\s.1=p::a.map (·.b9)/\(cg c p).time=gz a) ?_ λs L=>?_
 .refine oa (λb=>∃a,lL f p a b.2.2/\(p::a.map (·.b9)).Nodup/\b.2.1=a.map (·.gX)/\b.1=p::a.map (·.b9)/\(cg c p).time=gz a+(cg c b.2.2).time/\(0<=b.2.2/\b.2.2<(m:Int))/\(cg c b.2.2).time<(1152921504606846976:Int)/\∀q,q∈p::a.map (·.b9)->(cg c b.2.2).roads<=(cg c q).roads) (λb=>(cg c b.2.2).roads.toNat) _ (λb M=>?_) _ ⟨[],(by show p=p;rfl),by simp,rfl,rfl,by simp[gz],v,H,λq d=>by simp at d;rw[d];exact ey _⟩
  obtain⟨ab,T,at_⟩:=b;obtain⟨a,j,l,rfl,rfl,u,e,B,w⟩:=M;dsimp only at j u e B w⊢;have R:=j.mem;have K:(p::a.map (·.b9)).length<=m:=Rv l λA h=>by
   rcases kl.1 h with rfl |h
   .exact v
   .obtain⟨b,o,rfl⟩:=j9.1 h;exact(g.st b (R b o).1).2.1
  have Z:a.length+1<=m:=by simpa using K
  unfold Lo;rw[jF false e.1 (by omega),aa];cases t:f.safe.getD at_.toNat false with
  |true=>
   simp only[fe,cond_false];refine ae ⟨a,⟨⟨at_,j,e.1,t⟩,l⟩,rfl,rfl,?_⟩
   rw[u,k.ci.sf _ e.1 e.2 t];exact q5 _
  |false=>
   simp only[k7,cond_true];obtain⟨n,u1,u2,u3,u4⟩:=k.nx at_ e.1 e.2 t B;have y:Aj LC f.steps at_ f c=c7 (gg (sG f c at_) f.steps):=by
    unfold Aj;exact fF (by omega) (λA h=>ab4 g k.ci e h) λb=>rfl
   have E:0<=gg (sG f c at_) f.steps:=Aw.2 ⟨n,u1,by
    unfold sG;refine decide_eq_true ⟨u2,u3,?_,?_⟩
    .rw[u4];show _=(cg c n.b9).time+n.time -n.time;omega
    .rw[u4];show _=(cg c n.b9).roads+1 -1;omega⟩
   obtain⟨i,b,J,o,z,_⟩:=HN E;have D:=fC o;obtain⟨ag,x,W,X⟩:=g.st b D;unfold sG at z;obtain⟨G,N,U,ad⟩:=of_decide_eq_true z;have S:=k.ci.oV at_ e.1 e.2;have V:=k.ci.oV b.b9 x.1 x.2;rw[y,aa,J,bn,o];simp only[aa];rw[pN (by simp;omega),aa,pN (by simp;omega),aa];refine ae ⟨⟨a++[b],j.snoc D N G,?_,by simp,by simp,?_,x,?_,?_⟩,?_⟩
   .rw[hK, <-oS,List.nodup_append];refine⟨l,by simp,λA h Y C=>?_⟩
    simp at C;subst C;intro y;subst y;have:=w _ h;omega
   .dsimp only;rw[amX,u];omega
   .dsimp only;omega
   .dsimp only;intro q d;rw[hK, <-oS] at d;rcases e4.1 d with d |d
    .have:=w q d;omega
    .simp at d;rw[d];exact ey _
   .dsimp only;omega
 .obtain⟨a,j,l,O,I⟩:=L;rw[aa];exact ae λ_=>⟨a,j,l,O,I⟩
def acq{b:List cS}{a:List Int}(g:b.length<=300)(h:a.length<=300):Bm LC b a=c7 (b.filter λc=>!c5 (c.gX∈a)):=by
 have e:∀d,d∈b->ye LC d a=c7 (c5 (d.gX∈a)):=λd _=>by
  unfold ye;rw[contains_eq (by show a.length<=_;omega),aa]
 unfold Bm;have f:AM LC b a=c7 (gg (λc=>c5 (c.gX∈a)) b):=by
  unfold AM;exact fF (by omega) e λc=>rfl
 rw[f,aa];exact Hs (by omega) e λc i j=>rfl
def mC.up{f g:cm}(t:∀s,s∈g.steps->s∈f.steps)(d:g.safe=f.safe)(u:∀k,f.bad.getD k false=true->g.bad.getD k false=true){p:Int}{a:List cS}(h:mC g p a):mC f p a:=by
 obtain⟨q,m,l,j⟩:=h.ex;refine⟨⟨q,?_,l,by rw[<-d];exact j⟩,h.nd⟩
 have key:∀(a:List cS) (p:Int),lL g p a q->lL f p a q:=by
  intro a
  induction a with
  |nil=>exact λp h=>h
  |cons s a o=>
   intro p h;obtain⟨e,c,n,x⟩:=h;refine⟨t s e,?_,n,o _ x⟩
   unfold jl at c⊢;rw[d] at c;have:=u s.b9.toNat;cases w:f.bad.getD s.b9.toNat false with
   |false=>rw[k7,Bool.and_true];exact(j4 _ _▸c).1
   |true=>rw[this w] at c;simp at c
 exact key a p m
structure xU (m:ak) (e:bE) (p:Int) (r:List Int×List Int×ju) (ss1 ss2:List cS) (f:cm):Prop where
 there:lH m e/\0<=p/\p<=(m.ai.length:Int) -1
 find:w9 LC m e=c7 f
 fin:mA f m.ai.length
 so:∀s,s∈f.steps->mn m s
 p1:mC f p ss1
 p2:mC f p ss2
 r1:r.1=ss1.map (·.gX)
 r2:r.2.1=ss2.map (·.gX)
 t:r.2.2=⟨gz ss1,gz ss2⟩
 dis:∀s,s∈ss2->s.gX∉ss1.map (·.gX)
def S9{e:ak}{t:bE}{p:Int}(P:lO t)(S:Fit e.ai):Ok (r7 LC e t p) λr=>(r.2.2.2=false->r.1=[]/\r.2.1=[])/\(r.2.2.2=true->∃M s f,xU e t p (r.1,r.2.1,r.2.2.1) M s f):=by
 unfold r7;rw[ahk P S,aa]
 by_cases d:lH e t/\0<=p/\p<=(e.ai.length:Int) -1
 rotate_left
 .rw[decide_eq_false d];exact ae ⟨λ_=>⟨rfl,rfl⟩,by intro c;cases c⟩
 rw[decide_eq_true d,fe,cond_false,ahu];obtain⟨f,u,b,B⟩:=aol d.1;rw[u,aa,aa];dsimp only;rw[show Lk (JJ f)=f from rfl];have X:=b.safe;have Z:=b.sM;have I:=b.bad;rw[jF false d.2.1 (by omega),aa];cases C:f.safe.getD p.toNat false with
 |true=>exact ae ⟨(by intro c;cases c),λ_=>⟨[],[],f,d,u,b,B,⟨⟨p,rfl,d.2.1,C⟩,by simp⟩,⟨⟨p,rfl,d.2.1,C⟩,by simp⟩,rfl,rfl,rfl,λa k=>by cases k⟩⟩
 |false=>
  rw[cond_false];have w:0<=p/\p<(e.ai.length:Int):=⟨d.2.1,by omega⟩;refine aD (LA b w) λr n=>?_
  obtain⟨K,R,J,v⟩:=r;dsimp only at n⊢;cases v with
  |false=>exact ae ⟨λ_=>⟨rfl,rfl⟩,by intro c;cases c⟩
  |true=>
   obtain⟨h,z,rfl,rfl,rfl⟩:=n rfl;have Y:=z.len b w;obtain⟨q,N,_⟩:=z.ex;rw[fe,cond_false,l8 (by omega) (by simp;omega) (by omega),aa];refine aD (Q:=λl:List Bool=>l.length=e.ai.length/\∀j,f.bad.getD j false=true->l.getD j false=true) ?_ λl E=>?_
   .have A:(((p::h.map (·.b9)).drop ((1:Int).toNat)).take ((((p::h.map (·.b9)).length:Int)).toNat - (1:Int).toNat))=h.map (·.b9):=by
     rw[show((1:Int).toNat)=1 from rfl,List.drop_one,List.tail_cons,hM (by simp)]
    refine di h.length (λi a=>a.2=(i:Int)/\a.1.length=e.ai.length/\∀j,f.bad.getD j false=true->a.1.getD j false=true) _ (λi a F x=>?_) (λa x=>?_) _ ⟨rfl,I,λj c=>c⟩
    .obtain⟨V,j⟩:=a;obtain⟨rfl,o,m⟩:=x;dsimp only at o m⊢;unfold I9;dsimp only;have y:=c6 F;have G:=dd F;generalize h[i]=a at y G;have H:=(b.st a (N.mem a G).1).2.1;rw[A,aC (by rw[eE];omega),bn,o9,y,q2,aa,show(1:Int).toNat+((i:Int)).toNat=i+1 by omega,List.getElem?_cons_succ,o9,y,q2,aa,jF false H.1 (by omega),aa,get_at false H.1 (by omega),aa,aJ];refine ae ⟨rfl,by dsimp only;rw[dT];exact o,λL U=>?_⟩
     dsimp only;rw[ee,hI]
     split
     .rename_i ab;rw[if_pos (by omega)]
      rfl
     .rw[<-ee];exact m L U
    .obtain⟨V,j⟩:=a;obtain⟨rfl,o,m⟩:=x;dsimp only at o m⊢;unfold I9;dsimp only;rw[A,aG (by rw[eE];omega)];exact ae ⟨o,m⟩
   .rw[acq b.num (by rw[eE];omega),aa];have O:mA ({f with steps:=f.steps.filter λa=>!c5 (a.gX∈h.map (·.gX)),bad:=l}:cm) e.ai.length:=⟨b.MP,b.sM,b.safe,E.1,hz (kd _ _) b.num,λa k=>b.st a (l1.1 k).1⟩;refine aD (LA O w) λr n=>?_
    obtain⟨K,R,J,v⟩:=r;dsimp only at n⊢;cases v with
    |false=>exact ae ⟨λ_=>⟨rfl,rfl⟩,by intro c;cases c⟩
    |true=>
     obtain⟨s,D,rfl,rfl,rfl⟩:=n rfl;have T:mC f p s:=mC.up (f:=f) (g:=({f with steps:=f.steps.filter λa=>!c5 (a.gX∈h.map (·.gX)),bad:=l}:cm)) (λa k=>(l1.1 k).1) rfl E.2 D;refine ae ⟨(by intro c;cases c),λ_=>⟨h,s,f,d,u,b,B,z,T,rfl,rfl,rfl,λa k=>?_⟩⟩
     obtain⟨ac,W,_⟩:=D.ex;have:=(l1.1 (W.mem a k).1).2;simpa using this
def ann{m:ak}{p:Int}(q:m.af.length<=1000):Ok (v7 LC m p) λr=>0<=r/\r<=1000099:=by
 unfold v7;refine aD (Q:=λr:Int=>0<=r/\r<=1000099) ?_ λr f=>ae f
 have g:∀(i:Nat) (b:Bool),wT m (i:Int) b 2 3 4<=1000099:=λi b=>by
  rcases rF m (i:Int) b (u:=2) (d:=3) (l:=4) (by decide) with h |h <;> omega
 refine di m.af.length (λi a=>a.2=(i:Int)/\0<=a.1/\a.1<=1000099) _ (λi a o e=>?_) (λa e=>?_) _ ⟨rfl,ey _,by decide⟩
 .obtain⟨n,k⟩:=a;obtain⟨rfl,h0,c⟩:=e;dsimp only at h0 c⊢;unfold Kb;rw[aC,bn,c6 o,aa,AF,AF];have t:=g i false;have v:=g i true;simp only[aa];rw[aJ];refine aD (Q:=λr:Int=>0<=r/\r<=1000099) ?_ λr f=>aD (Q:=λr:Int=>0<=r/\r<=1000099) ?_ λs j=>ae ⟨rfl,j⟩
  .exact aV (λ_=>ae (by omega)) (λ_=>ae ⟨h0,c⟩)
  .exact aV (λ_=>ae (by omega)) (λ_=>ae f)
 .obtain⟨n,k⟩:=a;obtain⟨rfl,h0,c⟩:=e;dsimp only at h0 c⊢;unfold Kb;rw[aG];exact ae ⟨h0,c⟩
def xU.time{m:ak}{e:bE}{p:Int}{r:List Int×List Int×ju}{d a:List cS}{f:cm}(h:xU m e p r d a f):(0<=gz d/\gz d<=64006336)/\0<=gz a/\gz a<=64006336:=by
 have j:0<=p/\p<(m.ai.length:Int):=⟨h.there.2.1,by have:=h.there.2.2;omega⟩;have n:=h.p1.len h.fin j;have o:=h.p2.len h.fin j;have x:=h.fin.sM;obtain⟨t,c1,_⟩:=h.p1.ex;obtain⟨w,k,_⟩:=h.p2.ex;have l:=KZ h.fin λs c=>(c1.mem s c).1
 have u:=KZ h.fin λs c=>(k.mem s c).1
 omega
noncomputable def od(b:ak)(a:bE)(p:Int):Bool:=(r6 LC b a p).getD false
def L1{m:ak}{e:bE}{p:Int}(o:lO e)(u:Fit m.ai)(s:m.af.length<=1000):Ok (r6 LC m e p) λb=>b=true->∃r c d f a,r7 LC m e p=c7 (r.1,r.2.1,r.2.2,true)/\xU m e p r c d f/\v7 LC m p=c7 a/\(0<=a/\a<=1000099)/\a+gz c<=e.er/\a+gz d<=e.er:=by
 unfold r6;obtain⟨n,w,_,i⟩:=S9 (p:=p) o u;rw[w,aa];obtain⟨j,x,k,t⟩:=n;dsimp only at i⊢;cases t with
 |false=>exact ae (by intro h;cases h)
 |true=>
  obtain⟨c,d,f,g⟩:=i rfl;obtain⟨a,l,q⟩:=ann (m:=m) (p:=p) s;rw[cond_true,l,aa];have y:=g.time;have v:k=⟨gz c,gz d⟩:=g.t;subst v;dsimp only;rw[aJ];refine ae λh=>⟨(j,x,⟨gz c,gz d⟩),c,d,f,a,rfl,g,rfl,q,?_⟩
  have:=of_decide_eq_true h;omega
def U2{a:ak}{c:bE}{p:Int}(e:lO c)(d:Fit a.ai)(f:a.af.length<=1000):r6 LC a c p=c7 (od a c p):=by
 obtain⟨b,g,_⟩:=L1 (p:=p) e d f;unfold od;rw[g]
 rfl
def Ut{a:List Int}(c:Fit a):EZ LC a []=c7 false:=by
 unfold EZ;have d:zW LC a []=c7 (gg (λ_=>false) a):=by
  unfold zW;refine fF (P:=λb=>E7 LC b []) c (λb _=>?_) λe=>rfl
  unfold E7;rw[contains_eq (by show(0:Nat)<=_;omega),aa];simp
 rw[d,aa,gm];simp
def Le{m:ak}{l:List Int}(k:l=[]\/∃a,l=[a])(p:Sm m.ai)(s:Sm m.af):Ok (yB LC m l []) λr=>(r.2=0/\cP m/\∀a,l=[a]->(0<=a/\a<(m.af.length:Int))/\r.1=cY m a)\/r.2≠0:=by
 unfold yB;rw[ko,aa]
 by_cases e:cP m
 rotate_left
 .rw[decide_eq_false e];exact ae (.inr (by simp))
 have u:=e.1;have t:=e.2.1;have o:Fit l:=by
  show l.length<=_
  rcases k with d |⟨a,d⟩ <;> (rw[d];simp)
 rw[decide_eq_true e,fe,cond_false,aJ,kw _ _ _ o,aa]
 by_cases h:cj 0 ((m.af.length:Int) -1) l
 rotate_left
 .rw[decide_eq_false h];exact ae (.inr (by simp))
 rw[decide_eq_true h,fe,cond_false,kw _ _ _ (by decide),aa,decide_eq_true cj.nil,fe,cond_false,Ut o,aa,aa,cond_false,mV p,aa,nk s,aa];have j:∀g:List aZ,bO (λc:List aZ×Int=>T4 LC [] c.1 c.2) (g,0)=c7 g:=λg=>fZ rfl
 rcases k with rfl |⟨a,rfl⟩
 .have i:bO (λc:List aZ×Int=>Cj LC [] c.1 c.2) (m.af,0)=c7 m.af:=fZ rfl;refine c8 i ?_
  refine c8 (j _) ?_
  exact ae (.inl ⟨rfl,e,λa d=>by cases d⟩)
 .have n:=h.mem (e0.2 rfl);have i:bO (λc:List aZ×Int=>Cj LC [a] c.1 c.2) (m.af,0)=c7 (cY m a).af:=by
   have f:m.af[a.toNat]?=c7 (m.af[a.toNat]'(by omega)):=c6 (by omega);generalize m.af[a.toNat]'(by omega)=r at f;have q:aj m.af a=c7 r:=by unfold aj;rw[if_pos n.1];exact f
   rw[iO (a':=((cY m a).af,1)),fZ (b:=(cY m a).af)]
   .rfl
   .dsimp only;unfold Cj;rw[aC (by simp),show aj [a] 0=c7 a from rfl,aa,q,aa,f,aa];unfold cY;rw[f]
    rfl
  refine c8 i ?_
  refine c8 (j _) ?_
  refine ae (.inl ⟨rfl,e,λb d=>?_⟩)
  injection d with d _
  subst d;exact⟨⟨n.1,by omega⟩,rfl⟩
def apF{m:ak}{e:bE}{b:aL}{t a:Int}(i:lO e)(l:gF b):Ok (EU LC m e b t a) λk=>k=0->lH m e/\mz m b/\(0<=t/\t<=2147483648)/\0<=a/\a<=2147483648:=by
 unfold EU;rw[Jc i,aa]
 by_cases d:lH m e
 rotate_left
 .rw[decide_eq_false d];exact ae (by intro c;cases c)
 rw[decide_eq_true d,fe,cond_false];obtain⟨v,h,j⟩:=vB m b l;rw[h,aa,aa];cases v with
 |false=>exact ae (by intro c;cases c)
 |true=>
  rw[fe,cond_false,cF,aa]
  by_cases g:0<=t/\t<=2147483648
  rotate_left
  .rw[decide_eq_false g];exact ae (by intro c;cases c)
  rw[decide_eq_true g,fe,cond_false,cF,aa,aa]
  by_cases f:0<=a/\a<=2147483648
  rotate_left
  .rw[decide_eq_false f];exact ae (by intro c;cases c)
  rw[decide_eq_true f];exact ae λ_=>⟨d,j rfl,g,f⟩
def LS(b:aL)(c a:Int):(ld b c a).length<=64:=pQ
def abM{c:List Int}{a:ak}{b:bE}(l:c.length<=1000000)(g:lO b)(f:Fit a.ai)(k:a.af.length<=1000):zr LC c a b=c7 (c.filter λp=>!od a b p):=by
 have e:∀d,d∈c->w5 LC d a b=c7 (od a b d):=λd _=>by
  unfold w5;rw[U2 g f k,aa]
 unfold zr;have j:ER LC c a b=c7 (gg (od a b) c):=by
  unfold ER;exact fF (by omega) e λh=>rfl
 rw[j,aa];exact Hs (by omega) e λh i m=>rfl
def aa8{b a:List Int}(h:b.length<=1000000)(f:Fit a):Av LC b a=c7 (b.filter λp=>!c5 (p∈a)):=by
 have d:∀c,c∈b->za LC c a=c7 (c5 (c∈a)):=λc _=>by
  unfold za;rw[contains_eq f,aa]
 unfold Av;have g:zU LC b a=c7 (gg (λp=>c5 (p∈a)) b):=by
  unfold zU;exact fF (by omega) d λe=>rfl
 rw[g,aa];exact Hs (by omega) d λe i j=>rfl
def apc{m:ak}{e:bE}{b:aL}{t:Int}{d:ay}(x:b.aA[0]?=c7 d)(A:d.aH.length<=12)(v:gF b)(s:lO e)(w:Fit m.ai)(l:m.af.length<=1000):Ok (Bo LC m e b t) λc=>c.length<=768/\∀a:Nat,a<d.aH.length->∀p,p∈ld b (a:Int) t->p∈c\/od m e p=true:=by
 unfold Bo;rw[show aj b.aA 0=c7 d from x,aa];refine aD (Q:=λc:List Int=>c.length<=64*d.aH.length/\∀a:Nat,a<d.aH.length->∀p,p∈ld b (a:Int) t->p∈c) ?_ λc u=>?_
 .refine di d.aH.length (λi f=>f.2=(i:Int)/\f.1.length<=64*i/\∀a:Nat,a<i->∀p,p∈ld b (a:Int) t->p∈f.1) _ (λi f z n=>?_) (λf n=>?_) _ ⟨rfl,by simp,λa h=>absurd h (by omega)⟩
  .obtain⟨c,a⟩:=f;obtain⟨rfl,j,g⟩:=n;dsimp only at j g⊢;unfold Jp;have y:=LS b (i:Int) t;rw[aC,QC v,aa,aJ];refine aD (akS (by omega)) λr l=>ae ⟨by dsimp only;omega,by have:=l.1;dsimp only;omega,λa h p k=>?_⟩
   dsimp only;rw[l.2]
   by_cases o:a<i
   .exact .inl (g a o p k)
   .have:a=i:=by omega
    subst this;exact .inr k
  .obtain⟨c,a⟩:=f;obtain⟨rfl,j,g⟩:=n;dsimp only at j g⊢;unfold Jp;rw[aG];exact ae ⟨j,g⟩
 .rw[abM (by omega) s w l,aa];refine ae ⟨hz (kd _ _) (by omega),λa h p k=>?_⟩
  cases q:od m e p with
  |true=>exact .inr rfl
  |false=>exact .inl (l1.2 ⟨u.2 a h p k,by rw[q];rfl⟩)
def gG.pR{m:ak}{b a:aL}{t:Int}(d:gF b)(n:cP m)(h:gG (λx c=>mP m x t c) b.aA a.aA):gF a:=by
 refine⟨by show a.aA.length<=_;rw[h.1];exact d.1,λs l=>?_⟩
 obtain⟨w,e,y,u,A⟩:=h.back l;have:=d.2 w e;refine⟨by rw[y];exact this.tg,by show s.aH.length<=_;rw[u];exact this.wh,λc j=>?_⟩
 obtain⟨k,o,rfl⟩:=e5.1 j;have r:=A k _ _ (c6 (show k<w.aH.length by omega)) (c6 o);have B:=r.new.1.1;have C:=n.1;show _<=1000000
 omega
def uF(b:ak)(a:Int):(cY b a).af.length=b.af.length:=by
 unfold cY;dsimp only
 split
 .rw[dT]
 .rfl
structure Pp (m:ak) (e:bE) (b:aL) (a:Int) (al:List Int) (t ahead:Int) (r:ak×List Int×Int):Prop where
 fN:cP m
 oV:0<=a/\a<(m.af.length:Int)
 out:r.1=cY m a
 hZ:mz m b
 kI:lH m e
 ex:∃b',kW LC (cY m a) b t=c7 (b',0)/\∀w0,b'.aA[0]?=c7 w0->∀k:Nat,k<w0.aH.length->∀p,p∈ld b' (k:Int) (t+ahead)->p∈al\/od (cY m a) e p=true
def Ws{m:ak}{e:bE}{b:aL}{a:Int}{al:List Int}{t ahead:Int}(j:Sm m.ai)(A:Sm m.af)(w:lO e)(s:gF b)(T:Fit al):Ok (zJ LC m e b [a] [] al t ahead) λr=>r.2.1.length<=768/\(r.2.2=0->Pp m e b a al t ahead r):=by
 unfold zJ;obtain⟨q,R,d⟩:=Le (m:=m) (l:=[a]) (.inr ⟨a,rfl⟩) j A;rw[R,aa];rcases d with⟨E,u,d⟩ |d
 rotate_left
 .rw[aC d];exact ae ⟨by simp,λc=>absurd c d⟩
 obtain⟨L,J⟩:=d a rfl;rw[aG (by rw[E];simp)];obtain⟨U,F,W⟩:=apF (m:=m) (e:=e) (b:=b) (t:=t) (a:=ahead) w s;rw[F,aa]
 by_cases g:U=0
 rotate_left
 .rw[aC g];exact ae ⟨by simp,λc=>absurd c g⟩
 obtain⟨S,v,ac,ab⟩:=W g;have V:Fit m.ai:=by have:=u.1;show _<=4611686018427387904;omega
 have B:Fit (cY m a).ai:=V;have ah:=u.2.1;rw[aG (by rw[g];simp),J];obtain⟨h,y,P⟩:=Gq (cY m a) b t s B;rw[y,aa];rcases P with⟨f,O,ai,aj,i⟩ |⟨f,_⟩
 rotate_left
 .rw[aC f];exact ae ⟨by simp,λc=>absurd c f⟩
 have K:=gG.pR s O i;rw[aG (by rw[f];simp),aJ];have n:h.1.aA[0]?=c7 (h.1.aA[0]'(by rw[i.1];omega)):=c6 _;generalize h.1.aA[0]'(by rw[i.1];omega)=ag at n;obtain⟨X,M,af,ad,_⟩:=i.back (fC n);have Z:=v.len X M;obtain⟨l,H,x⟩:=apc (m:=cY m a) (e:=e) (t:=t+ahead) n (by omega) K w B (by rw[uF];omega);have D:=x.1;rw[H,aa,bV (by show _<=1000000;omega),aa,aa8 (by omega) T,aa];refine aV (λc=>?_) (λc=>?_)
 .obtain⟨z,Q,_⟩:=Le (m:=m) (l:=[]) (.inl rfl) j A;rw[Q,aa];exact ae ⟨hz (kd _ _) D,λc=>by cases c⟩
 .refine ae ⟨D,λ_=>⟨u,L,rfl,v,S,h.1,by rw[y, <-f],λY k I G p j=>?_⟩⟩
  rw[n] at k;injection k with k
  subst k;rcases x.2 I G p j with o |o
  .refine .inl ?_
   have N:l.filter (λp=>!c5 (p∈al))=[]:=List.length_eq_zero_iff.1 (by omega)
   by_cases C:p∈al
   .exact C
   .have:=List.filter_eq_nil_iff.1 N p o;simp[C] at this
  .exact .inr o
def zb{a:List aT}(e:Sm a)(h:∀r,r∈a->Sm r.aw):ry LC a=c7 a:=by
 unfold ry;have j:=jm (f:=λd=>tV LC a d.1 d.2) a (λb i=>(b,i)) (λb=>b) (λb r k c=>by
  show tV LC a b (b.length:Int)=_
  unfold tV;have g:=jW e c;rw[aC (iy c),jg c,aa,bV (h r (ks c)),aa,dm (by decide) g,aa,aJ]) (by
  show tV LC a a (a.length:Int)=_
  unfold tV;rw[aG])
 exact(dL j).trans rfl
def Sv{a:List aT}(b:Sm a)(c:∀r,r∈a->Sm r.aw):zp LC a=c7 a:=zb b c
def sF{b:aL}(e:gF b):pf LC b=c7 b:=by
 unfold pf;have h:=jm (f:=λd=>sB LC b d.1 d.2) b.aA (λa i=>(a,i)) (λa=>a) (λa r j c=>by
  show sB LC b a (a.length:Int)=_
  unfold sB;have g:=jW e.1 c;rw[aC (iy c),jg c,aa,Tz (e.2 r (ks c)),aa,dm (by decide) g,aa,aJ]) (by
  show sB LC b b.aA (b.aA.length:Int)=_
  unfold sB;rw[aG])
 exact(dL h).trans rfl
structure EW (p:aE):Prop where
 tr:ny p.au
 pl:Sm p.ao.ai
 rd:Sm p.ao.af
 fl:Sm p.cI
 es:Sm p.bR.akL
 eb:Sm p.bR.dg
 eh:Sm p.bR.dG
 ba:Sm p.bM.bT
 pe:Sm p.cq
 pt:∀r,r∈p.cq->Sm r.aw
 he:Sm p.bZ
 ht:∀r,r∈p.bZ->Sm r.aw
 il:Sm p.cW.dl
 io:Sm p.cW.dr
 be:gF p.bw
 se:gF p.bq
 sm:Sm p.bz.an
 kr:Sm p.aa2.af
 kk:Sm p.aa2.aa2
 al:Sm p.bS
 lg:Sm p.bB
 ln:∀h,h∈p.bB->Sm h.ll
def abi{p:aE}(a:EW p):wc LC p=c7 p:=by
 unfold wc;obtain⟨q,e,g⟩:=HQ a.tr.fit;rw[e,aa,mV a.pl,aa,nk a.rd,aa,zS a.fl,aa,bV a.es,aa,bV a.eb,aa,bV a.eh,aa,bV a.ba,aa,zb a.pe a.pt,aa,zb a.he a.ht,aa,bV a.il,aa,bV a.io,aa,sF a.be,aa,sF a.se,aa,bV a.sm,aa,bV a.kr,aa,bV a.kk,aa,wE a.al,aa,g];have j:=jm (f:=λd=>tO LC p (sN d) (sE d)) p.bB (λb i=>u16 ({p with bB:=b}:aE) i) (λb=>lR ({p with bB:=b}:aE)) (λb r k c=>by
  show tO LC p ({p with bB:=b}:aE) (b.length:Int)=_
  unfold tO;have h:=jW a.lg c;rw[aC (iy c),jg c,aa,bV (a.ln r (ks c)),aa,dm (by decide) h,aa,aJ]) (by
  show tO LC p p (p.bB.length:Int)=_
  unfold tO;rw[aG])
 exact(dL j).trans rfl
def abE{p:aE}(a:EW p):Cp LC p=c7 (OE p):=by
 unfold Cp;obtain⟨q,e,g⟩:=HQ a.tr.fit;rw[e,aa,mV a.pl,aa,nk a.rd,aa,zS a.fl,aa,bV a.es,aa,bV a.eb,aa,bV a.eh,aa,bV a.ba,aa,zb a.pe a.pt,aa,zb a.he a.ht,aa,bV a.il,aa,bV a.io,aa,sF a.be,aa,sF a.se,aa,bV a.sm,aa,bV a.kr,aa,bV a.kk,aa,wE a.al,aa,g];have j:=jm (f:=λd=>uo LC p (sN d) (sE d)) p.bB (λb i=>u16 ({p with bB:=b}:aE) i) (λb=>lR ({p with bB:=b}:aE)) (λb r k c=>by
  show uo LC p ({p with bB:=b}:aE) (b.length:Int)=_
  unfold uo;have h:=jW a.lg c;rw[aC (iy c),jg c,aa,bV (a.ln r (ks c)),aa,dm (by decide) h,aa,aJ]) (by
  show uo LC p p (p.bB.length:Int)=_
  unfold uo;rw[aG])
 exact(dL j).trans rfl
def aiT{p:aE}(a:EW p):Dr LC p=c7 (IW p):=by
 unfold Dr;obtain⟨q,e,g⟩:=HQ a.tr.fit;rw[e,aa,mV a.pl,aa,nk a.rd,aa,zS a.fl,aa,bV a.es,aa,bV a.eb,aa,bV a.eh,aa,bV a.ba,aa,Sv a.pe a.pt,aa,Sv a.he a.ht,aa,bV a.il,aa,bV a.io,aa,sF a.be,aa,sF a.se,aa,bV a.sm,aa,bV a.kr,aa,bV a.kk,aa,wE a.al,aa,g];have j:=jm (f:=λd=>uS LC p (Rx p.cq p.bZ d) (Tu d)) p.bB (λb i=>J3 ({p with bB:=b}:aE) i) (λb=>Mj ({p with bB:=b}:aE)) (λb r k c=>by
  show uS LC p ({p with bB:=b}:aE) (b.length:Int)=_
  unfold uS;have h:=jW a.lg c;rw[aC (iy c),jg c,aa,bV (a.ln r (ks c)),aa,dm (by decide) h,aa,aJ]) (by
  show uS LC p p (p.bB.length:Int)=_
  unfold uS;rw[aG])
 exact(dL j).trans rfl
structure fM (n np:Nat) (b:aL):Prop where
 num:b.aA.length<=24
 mX:∀w,w∈b.aA->j0 n np w/\w.aw.length=n
def fM.pR{n np:Nat}(l:n<=3)(k:np<=64){b:aL}(h:fM n np b):gF b:=⟨cX h.num (by decide),λw a=>by
 obtain⟨⟨e,c⟩,j⟩:=h.mX w a;exact⟨cX (n:=3) (by omega) (by decide),cX (n:=3) (by omega) (by decide),λx d=>cX (n:=64) (by have:=c x d;omega) (by decide)⟩⟩
def fM.nil{n np:Nat}:fM n np ⟨[]⟩:=⟨by simp,λw a=>by cases a⟩
def fM.aX{n np:Nat}{k:aM->aM->Prop}{C:aM->Prop}{m:ak}{tag:Int}{b j:aL}(h:fM n np b)(B:∀x a,k x a->x.an.length=np->a.an.length=np)(e:oG k C m tag b j):fM n np j:=by
 refine⟨hz e.n.len h.num,λy t=>?_⟩
 obtain⟨w,o,i,x,a,E,A,D,rfl⟩:=e.n.from_ y t;obtain⟨⟨l,d⟩,u⟩:=h.mX w o;refine⟨⟨by show(w.aH.set i a).length=n;rw[dT];exact l,λs c=>?_⟩,u⟩
 rcases ev c with c |rfl
 .exact d s c
 .exact B x _ D (d x (fC A))
def fM.Np{n np:Nat}{m:ak}{i e t:Int}{b d:aL}(h:fM n np b)(c:AY m i e t n np b d):fM n np d:=by
 refine⟨c.num,λu l=>?_⟩
 obtain⟨E,x,B,D,C,y⟩:=c.ex;obtain⟨j,w,o,s⟩:=x.c u l;refine⟨j,?_⟩
 rw[s];rcases y w o with k |⟨a,A,rfl⟩
 .exact(h.mX w k).2
 .have:=(h.mX a A).2;show(gL i e a.aw).length=n
  unfold gL
  split
  .rw[dT,dT];exact this
  .exact this
def fM.renew{n np:Nat}{m:ak}{t:Int}{b c:aL}(h:fM n np b)(o:m.ai.length=np)(a:gG (λx d=>mP m x t d) b.aA c.aA):fM n np c:=by
 refine⟨by rw[a.1];exact h.num,λD l=>?_⟩
 obtain⟨w,j,y,E,A⟩:=a.back l;obtain⟨⟨B,C⟩,u⟩:=h.mX w j;refine⟨⟨by omega,λd e=>?_⟩,by rw[y];exact u⟩
 obtain⟨k,s,rfl⟩:=e5.1 e;have r:=A k _ _ (c6 (show k<w.aH.length by omega)) (c6 s);rw[r.new.1.1,o]
def fM.shut{n np:Nat}{m:ak}{A:List Int}{t:Int}{b c:aL}(h:fM n np b)(x:Ff m b A t n np c):fM n np c:=by
 obtain⟨B,C,D,a,d⟩:=x.ex;refine⟨hz d.d (by rw[a.1];exact h.num),λu j=>?_⟩
 obtain⟨e,w,l,s⟩:=d.c u j;obtain⟨k,y,o,_⟩:=a.back l;exact⟨e,by rw[s,o];exact(h.mX k y).2⟩
def Ro{e:ak}{d:Nat}(f:e.ai.length=d){i:List Int}{h g:Int}:∀a b:aM,(b=a\/lG e a i h g b)->a.an.length=d->b.an.length=d:=λa b c j=>by
 rcases c with rfl |c
 .exact j
 .rw[c.new.1.1,f]
def T3{e:ak}{d:Nat}(f:e.ai.length=d){l:List Int}{j i m:Int}:∀a b:aM,(b=a\/∃h,og e a l j i m b h)->a.an.length=d->b.an.length=d:=λa b c k=>by
 rcases c with rfl |⟨g,c⟩
 .exact k
 .rw[c.new.1.1,f]
structure dW (n np:Nat) (p:aE):Prop where
 n3:1<=n/\n<=3
 kN:ny p.au
 fN:p.au.ao=p.ao
 gq:cP p.ao
 gk:p.ao.ai.length=np
 iz:p.au.aN.length=n
 jR:p.au.aQ.length<=3
 kj:p.au.bp.length=p.au.aQ.length
 uD:p.cI.length=p.ao.af.length
 kI:lO p.bR/\Sm p.bR.akL/\Sm p.bR.dg/\Sm p.bR.dG
 qx:Sm p.bM.bT
 kn:p.cq.length=p.au.aQ.length
 rX:∀r,r∈p.cq->r.aw.length<=1000
 uB:p.bZ.length<=60
 rW:∀r,r∈p.bZ->r.aw.length<=1000
 int:Sm p.cW.dl/\Sm p.cW.dr
 hZ:fM n np p.bw
 bne:p.bw.aA≠[]
 je:fM n np p.bq
 pq:p.bz.an=[]\/p.bz.an.length=np
 key:ff p.aa2
 jY:cj 0 ((p.ao.af.length:Int) -1) p.aa2.af
 iI:VA p.bS
 log:p.bB.length<=200
 uC:∀h,h∈p.bB->h.ll.length<=768
def dW.mq{n np:Nat}{p:aE}(h:dW n np p):np<=64:=by have:=h.gq.1;have:=h.gk;omega
def dW.lC{n np:Nat}{p:aE}(h:dW n np p):EW p:=by
 have d:=h.mq;have a:=h.gq;have j:=h.n3;refine⟨h.kN,cX a.1 (by decide),cX a.2.1 (by decide),cX (n:=128) (by have:=h.uD;have:=a.2.1;omega) (by decide),h.kI.2.1,h.kI.2.2.1,h.kI.2.2.2,h.qx,cX (n:=3) (by have:=h.kn;have:=h.jR;omega) (by decide),λr c=>cX (h.rX r c) (by decide),cX h.uB (by decide),λr c=>cX (h.rW r c) (by decide),h.int.1,h.int.2,h.hZ.pR j.2 d,h.je.pR j.2 d,?_,h.key.sm.1,h.key.sm.2,cX h.iI.1 (by decide),cX h.log (by decide),λx k=>cX (h.uC x k) (by decide)⟩
 rcases h.pq with e |e
 .rw[e];show(0:Nat)<=_;decide
 .exact cX (n:=64) (by omega) (by decide)
def U4{e d:Nat}{p:aE}(a:dW e d p):Ok (zj LC p) λb=>b=true->fw p.au:=by
 classical
 unfold zj;rw[xf _ a.kN.fit,aa]
 by_cases c:fw p.au
 rotate_left
 .rw[decide_eq_false c];exact ae (by intro a;cases a)
 rw[decide_eq_true c,cond_true,ko,aa,decide_eq_true a.gq,cond_true,aC (by have:=a.kn;omega),aC (by have:=a.uD;omega),aC (by have:=List.length_pos_iff.2 a.bne;omega),tA (hz a.key.sm.1 (by decide)),aa];exact ae λ_=>c
end Go.X.T
