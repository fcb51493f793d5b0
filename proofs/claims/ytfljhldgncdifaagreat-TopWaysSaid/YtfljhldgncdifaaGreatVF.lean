/- For TopWays, part 6. -/
import Derived.Test.YtfljhldgncdifaaGreatVE
set_option linter.defProp false
set_option linter.unusedVariables false
set_option linter.unusedSimpArgs false
open Go.IntKind renaming wrap → c3, i64 → c4, u64 → hS
open Decidable renaming decide → c5, byContradiction → dv, not_not → eo
open List renaming getElem?_eq_getElem → c6, getElem_mem → dd, getElem?_eq_some_iff → dt, length_set → dT, mem_singleton → e0, mem_append → e4, mem_iff_getElem → e5, length_replicate → e6, length_take → ea, getD_eq_getElem?_getD → ec, replicate → ee, length_append → ef, zipWith → ei, length_map → ev, getElem?_append_right → ez, mem_or_eq_of_mem_set → eE, length_cons → eH, length_zipWith → ga, drop_eq_getElem_cons → gb, getElem?_set_self → gv, eq_of_mem_replicate → gx, take_length → gy, length_drop → h5, getElem?_append_left → h6, pairwise_iff_getElem → h7, append_assoc → h8, map_append → hq, getElem?_set_ne → hz, getElem?_replicate → hB, getElem?_set → hK, length_nil → hL, take_of_length_le → hM, getElem?_eq_none → hP, mem_iff_getElem? → hQ, getElem_zipWith → hU, perm_singleton → hX, set_cons_zero → hY, drop_of_length_le → ie, mem_map → j9, drop_zero → k0, set_append_right → k8, length_filter_le → kd, mem_cons → kl, map_cons → km, take_append_of_le_length → l0, mem_filter → l1, set_cons_succ → l2, getElem?_take → l3, pairwise_cons → l4, ext_getElem? → la, any_eq_false → m1, any_eq_true → m2, cons_append → m4, length_eq_zero_iff → m5, append_nil → my, nil_append → n0, mem_range → n1, filter_eq_self → ng, take_set_of_le → o1, sum_cons → o3, filter_append → o6, take_add_one → o7, getElem_take → o8, flatMap_cons → oj, nodup_append → oo, getElem?_map → oq, getElem_map → oS, getElem_set → p4, getD → p6, foldl_cons → q2, take_take → q5, mem_set → qq, length → r4
open Option renaming some → c7, none → j4, map_some → q4, bind → r3
open Int renaming toNat_natCast → dk, le_refl → fe, fdiv_eq_ediv_of_nonneg → ih, eq_ofNat_of_zero_le → j7, emod_add_mul_ediv → kc, zero_add → mb, mul_le_mul → n2, mul_assoc → o2, pow_succ → o9, mul_comm → oi, ediv_le_self → p0, ediv_nonneg → pc, natCast_pow → q3, lt_irrefl → q6, add_zero → q7, zero_mul → q8, le_trans → qa
open Sum renaming elim_inr → ej, elim_inl → ft, inl → m0, inr → r5
open Bool renaming not_true → ey, or_eq_false_iff → j2, and_eq_true → j3, false_eq_true → j5, not_false → k7, eq_iff_iff → mx
open Nat renaming le_refl → h9, le_trans → hD, sub_self → j8, mod_eq_of_lt → kh, zero_add → m6, add_sub_cancel → o4, zero_le → p7, add_zero → qb, min_self → r0
open List.Perm renaming cons_inv → hI, swap → k6
open BitVec renaming ofInt_natCast → j1, toNat_ofNat → j6, ofInt → ma
open Classical renaming propDecidable → m3
namespace Go.X.T
open Go Go.Aml
structure ny (x:aB):Prop where
 pl:Sm x.ao.ai
 rd:Sm x.ao.af
 pe:Sm x.aN
 tg:Sm x.aw
 rs:Sm x.aQ
 rp:∀r,r∈x.aQ->Sm r.ai
 nu:Sm x.cn
 lo:Sm x.cf
 mi:Sm x.bp
 mr:∀l,l∈x.bp->Sm l
def cX{c:Type}{a:List c}{n:Nat}(d:a.length<=n)(b:n<=1000000):Sm a:=hD d b
def fw.sm{x:aB}(h:fw x):ny x:=by
 obtain⟨⟨d,o,m⟩,k,B,E,u,C,D,y,j,A⟩:=h;refine⟨cX d.1 (by decide),cX d.2.1 (by decide),cX k.2 (by decide),cX (n:=12) (by omega) (by decide),cX o (by decide),λr s=>?_,cX (n:=32) (by omega) (by decide),cX (n:=32) (by omega) (by decide),cX (n:=32) (by omega) (by decide),λt l=>?_⟩
 .have:=(m r s).2.1.len (by omega);have:=d.1;exact cX (n:=64) (by omega) (by decide)
 .obtain⟨i,hi,rfl⟩:=e5.1 l;obtain⟨r,a,b,c,_,_,_,e,_,_,_,w,_⟩:=j i (by omega);rw[c6 hi] at e;injection e with e
  rw[e];exact cX (n:=12) (by omega) (by decide)
def ny.fit{x:aB}(h:ny x):∀r,r∈x.aQ->Fit r.ai:=λr a=>hD (h.rp r a) (by decide)
def jW{b:Type}{a done c:List b}{d:b}(e:Sm a)(f:a=done++d::c):done.length<=2000000:=by
 have g:a.length<=1000000:=e;have:=iy f;omega
def jZ{b:Type}{a:List b}(c:Sm a):a.length<=1000000:=c
def dL{b d:Type}{m:Option b}{a:b}{c:b->Option d}(e:m=c7 a):m.bind c=c a:=by subst e;rfl
def agL{x:aB}(b:ny x):yS LC x=c7 x:=by
 unfold yS;rw[mV b.pl,aa,nk b.rd,aa,Ep b.pe,aa,bV b.tg,aa];have h:=jm (f:=λd=>ue LC x (Oe d) (Nk d)) x.aQ (λa i=>u9 ({x with aQ:=a}:aB) i) (λa=>u3 ({x with aQ:=a}:aB)) (λa r g c=>by
  show ue LC x ({x with aQ:=a}:aB) (a.length:Int)=_
  unfold ue;have e:=jW b.rs c;rw[aC (iy c),jg c,aa,bV (b.rp r (ks c)),aa,dm (by decide) e,aa,aJ]) (by
  show ue LC x x (x.aQ.length:Int)=_
  unfold ue;rw[aG])
 refine(dL h).trans ?_
 dsimp only;rw[bV b.nu,aa,bV b.lo,aa];have j:=jm (f:=λd=>tG LC x (CU d) (Eg d)) x.bp (λa i=>u1 ({x with bp:=a}:aB) i) (λa=>u3 ({x with bp:=a}:aB)) (λa r g c=>by
  show tG LC x ({x with bp:=a}:aB) (a.length:Int)=_
  unfold tG;have e:=jW b.mi c;rw[aC (iy c),jg c,aa,bV (b.mr r (ks c)),aa,dm (by decide) e,aa,aJ]) (by
  show tG LC x x (x.bp.length:Int)=_
  unfold tG;rw[aG])
 exact(dL j).trans rfl
def Sy{a:aB}(c:ny a):yC LC a=c7 (B7 a):=by
 unfold yC;rw[mV c.pl,aa,nk c.rd,aa,Ep c.pe,aa,bV c.tg,aa];have j:=jm (f:=λe=>sK LC a (Pa a.aN e) (Oj e)) a.aQ (λb i=>Ga ({a with aQ:=b}:aB) i) (λb=>DY ({a with aQ:=b}:aB)) (λb r h d=>by
  show sK LC a ({a with aQ:=b}:aB) (b.length:Int)=_
  unfold sK;have g:=jW c.rs d;rw[aC (iy d),jg d,aa,bV (c.rp r (ks d)),aa,dm (by decide) g,aa,aJ]) (by
  show sK LC a a (a.aQ.length:Int)=_
  unfold sK;rw[aG])
 refine(dL j).trans ?_
 dsimp only;rw[bV c.nu,aa,bV c.lo,aa];have k:=jm (f:=λe=>vc LC a (LU a.aN e) (Tv e)) a.bp (λb i=>J4 ({a with bp:=b}:aB) i) (λb=>DY ({a with bp:=b}:aB)) (λb r h d=>by
  show vc LC a ({a with bp:=b}:aB) (b.length:Int)=_
  unfold vc;have g:=jW c.mi d;rw[aC (iy d),jg d,aa,bV (c.mr r (ks d)),aa,dm (by decide) g,aa,aJ]) (by
  show vc LC a a (a.bp.length:Int)=_
  unfold vc;rw[aG])
 exact(dL k).trans rfl
def ans{a:aB}(c:ny a):D6 LC a=c7 (MF a):=by
 unfold D6;rw[mV c.pl,aa,nk c.rd,aa,Ep c.pe,aa,bV c.tg,aa];have j:=jm (f:=λe=>tW LC a (MR a.ao.af a.aN e) (L9 e)) a.aQ (λb i=>KL ({a with aQ:=b}:aB) i) (λb=>CD ({a with aQ:=b}:aB)) (λb r h d=>by
  show tW LC a ({a with aQ:=b}:aB) (b.length:Int)=_
  unfold tW;have g:=jW c.rs d;rw[aC (iy d),jg d,aa,bV (c.rp r (ks d)),aa,dm (by decide) g,aa,aJ]) (by
  show tW LC a a (a.aQ.length:Int)=_
  unfold tW;rw[aG])
 refine(dL j).trans ?_
 dsimp only;rw[bV c.nu,aa,bV c.lo,aa];have k:=jm (f:=λe=>va LC a (R4 a.ao.af a.aN e) (Lw e)) a.bp (λb i=>IC ({a with bp:=b}:aB) i) (λb=>CD ({a with bp:=b}:aB)) (λb r h d=>by
  show va LC a ({a with bp:=b}:aB) (b.length:Int)=_
  unfold va;have g:=jW c.mi d;rw[aC (iy d),jg d,aa,bV (c.mr r (ks d)),aa,dm (by decide) g,aa,aJ]) (by
  show va LC a a (a.bp.length:Int)=_
  unfold va;rw[aG])
 exact(dL k).trans rfl
def oc{a:aB}(c:ny a){k:Type}(g:List bP->List aZ->Int->List bC->List Int->List aS->List Int->List Int->Option k):
 FD LC a g=g a.ao.ai a.ao.af a.aa0 a.aN a.aw a.aQ a.cn a.cf:=by
 unfold FD;rw[mV c.pl,aa,nk c.rd,aa,Ep c.pe,aa,bV c.tg,aa];have h:=jm (f:=λb=>DC LC a b.1 b.2.1 b.2.2.1 b.2.2.2.1 b.2.2.2.2.1 b.2.2.2.2.2.1 b.2.2.2.2.2.2.1 b.2.2.2.2.2.2.2.1 b.2.2.2.2.2.2.2.2) a.aQ (λd i=>(a.ao.ai,a.ao.af,a.aa0,a.aN,a.cn,a.cf,a.bp,d,i)) (λd=>(a.ao.ai,a.ao.af,a.aa0,a.aN,d,a.cn,a.cf,a.bp)) (λd r l e=>by
  dsimp only;unfold DC;have j:=jW c.rs e;rw[aC (iy e),jg e,aa,bV (c.rp r (ks e)),aa,dm (by decide) j,aa,aJ]) (by
  dsimp only;unfold DC;rw[aG])
 refine(dL h).trans ?_
 dsimp only;rw[bV c.nu,aa,bV c.lo,aa]
def other(a:ak)(i p:Int):Int:=if 0<=i then(match a.af[i.toNat]? with |some r=>if p=r.an then r.To else if p=r.To then r.an else -1 |none=>-1) else -1
def ajF(a:ak)(i p:Int):CX LC a i p=c7 (other a i p):=by
 unfold CX other;rw[ew rfl,aa]
 by_cases d:i<0\/(a.af.length:Int)<=i
 .rw[aC d]
  by_cases h0:0<=i
  .rw[if_pos h0,hP (by omega)]
  .rw[if_neg h0]
 .have e:i.toNat<a.af.length:=by omega
  rw[aG d,qC (by omega) (by omega),aa,if_pos (by omega),c6 e];dsimp only
  by_cases c:p=a.af[i.toNat].an
  .rw[aC c,if_pos c]
  .rw[aG c,if_neg c]
   by_cases b:p=a.af[i.toNat].To
   .rw[aC b,if_pos b]
   .rw[aG b,if_neg b]
def NJ{b:Type}{f:List b×Int->Option ((List b×Int)⊕List b)}(g:b->b)(a:List b)
 (l:∀(i:Nat) (aK:List b) (e:b),i<a.length->aK.length=a.length->aK[i]?=c7 e->a[i]?=c7 e->f (aK,(i:Int))=c7 (.inl (aK.set i (g e),(i:Int)+1)))
 (k:∀aK:List b,aK.length=a.length->f (aK,(a.length:Int))=c7 (.inr aK)):bO f (a,0)=c7 (a.map g):=by
 have:=nV (f:=f) a.length (λi=>((a.take i).map g++a.drop i,(i:Int))) (a.map g) (λi c=>?_) (by
  have:=k ((a.take a.length).map g++a.drop a.length) (by simp);rw[this];simp)
 .simpa using this
 .have d:((a.take i).map g).length=i:=by rw[ev,ea];omega
  have h:((a.take i).map g++a.drop i)[i]?=c7 a[i]:=by
   rw[ez (by omega),d,j8,gb c];rfl
  rw[l i _ a[i] c (by rw[ef,d,h5];omega) h (c6 c)];have j:((a.take i).map g++a.drop i).set i (g a[i])=(a.take (i+1)).map g++a.drop (i+1):=by
   rw[k8 _ _ (by omega),d,j8,gb c,hY, <-List.take_append_getElem c,hq,h8]
   rfl
  rw[j]
  rfl
def uf(c:ak)(b:Int)(a:bC):bC:=if a.akw<0 then a else if a.ami -b<=0 then⟨other c a.akw a.abG,-1,0⟩ else⟨a.abG,a.akw,a.ami -b⟩
def x7(a:aB)(b:Int):aB:={a with aa0:=a.aa0+b,aN:=a.aN.map (uf a.ao b)}
def ou{b:Type}{a:List b}{i:Nat}{c:b}(e:a[i]?=c7 c):a.set i c=a:=by
 apply la
 intro f;rw[hK]
 by_cases d:i=f
 .subst d;have:=(dt.1 e).1;rw[if_pos rfl,if_pos this,e]
 .rw[if_neg d]
def RE{a:aB}(b:Int)(p:∀r,r∈a.aQ->Fit r.ai):Ok (qp LC a b) λr=>(r.2≠0/\r.1=a)\/(r.2=0/\fw a/\0<=b/\a.aa0+b<=2147483648/\r.1=x7 a b):=by
 unfold qp;rw[xf a p,aa,de]
 by_cases c:fw a
 rotate_left
 .rw[aG c];exact ae (.inl ⟨by simp,rfl⟩)
 rw[aC c,cF,aa,de];have u:=c.2.2.2.2.1;refine aV (λk=>?_) (λk=>ae (.inl ⟨by simp,rfl⟩))
 rw[aJ (n:=a.aa0+b)];refine aV (λl=>ae (.inl ⟨by simp,rfl⟩)) (λl=>?_)
 rw[Sy c.sm,aa];have o:bO (λe=>vz LC (Bi (B7 a)) b a e.1 e.2) ((Bi (B7 a)).aN,0)=c7 (a.aN.map (uf a.ao b)):=by
  refine NJ (f:=λe=>vz LC a b a e.1 e.2) (uf a.ao b) a.aN (λi aK d v m j s=>?_) (λaK m=>?_)
  .dsimp only;unfold vz;have w:=c.2.1;rw[aC,bn,j,aa,dk,j,aa,aJ (n:=(i:Int)+1)];have q:=c.2.2.2.2.2.2.2.2.2 d (fC s);have t:0<=d.ami/\d.ami<=2147483648:=by
    have:=q.2
    split at this <;> omega
   rw[aJ (n:=d.ami -b)];unfold uf
   by_cases g:d.akw<0
   .rw[aC g,if_pos g,aa,ou j]
   .rw[aG g,if_neg g]
    by_cases h:d.ami -b<=0
    .rw[aC h,if_pos h,ajF,aa,aa,aa,aa,aa]
    .rw[aG h,if_neg h,aa,aa,aa,aa]
  .dsimp only;unfold vz;rw[aG]
 dsimp only;refine c8 o ?_
 refine ae (.inr ⟨rfl,c,k.1,by omega,?_⟩)
 show({a with aa0:=c3 c4 (a.aa0+b),aN:=_}:aB)=x7 a b
 rw[aJ]
 rfl
def WV{a:aB}(e:fw a):x7 a 0=a:=by
 unfold x7;have f:a.aN.map (uf a.ao 0)=a.aN:=by
  conv=>rhs;rw[<-List.map_id a.aN]
  refine List.map_congr_left λc d=>?_
  unfold uf;have g:=(e.2.2.2.2.2.2.2.2.2 c d).2
  by_cases b:c.akw<0
  .rw[if_pos b];rfl
  .rw[if_neg b];rw[if_neg (by omega)] at g;rw[if_neg (by omega),Int.sub_zero];rfl
 rw[f,q7]
def HQ{b:aB}(d:∀r,r∈b.aQ->Fit r.ai):Ok (qp LC b 0) λr=>r.1=b:=by
 refine WI (RE 0 d) λr a=>?_
 rcases a with a |⟨_,a,_,_,c⟩
 .exact a.2
 .rw[c,WV a]
def LZ{b:aB}(a:List Int)(k:∀r,r∈b.aQ->Fit r.ai)(o:a.length<=100):Ok (wv LC b a) λg=>(g=0->fw b/\∀i,i∈a->0<=i/\i<(b.aN.length:Int)):=by
 unfold wv;rw[xf b k,aa,de]
 by_cases e:fw b
 rotate_left
 .rw[aG e];exact ae λc=>absurd c (by simp)
 rw[aC e];have p:=e.2.1;have g:bO (λh=>wC LC a b h) 0=c7 (if ∀i,i<a.length->(λi:Nat=>c5 (¬(0<=a.getD i 0/\a.getD i 0<=(b.aN.length:Int) -1))) i=false then .inr () else .inl ()):=by
  refine oD _ _ () (λi d=>?_) ?_
  .unfold wC;rw[aC,uu d,aa,aJ (n:=(b.aN.length:Int) -1),cF,aa,aJ]
   by_cases c:0<=a.getD i 0/\a.getD i 0<=(b.aN.length:Int) -1
   .rw[decide_eq_true c,decide_eq_false (λf=>f c)];rfl
   .rw[decide_eq_false c,decide_eq_true c];rfl
  .unfold wC;rw[aG]
 rw[show LC.loop (λh=>wC LC a b h) 0=_ from g,aa]
 by_cases c:∀i,i<a.length->0<=a.getD i 0/\a.getD i 0<=(b.aN.length:Int) -1
 .rw[if_pos (λi d=>decide_eq_false (λf=>f (c i d)))];refine ae λ_=>⟨e,λm l=>?_⟩
  obtain⟨i,d,rfl⟩:=e5.1 l;have:=c i d;rw[pu (c6 d)] at this;omega
 .rw[if_neg (λj=>c λi d=>by have:=of_decide_eq_false (j i d);exact dv this)];exact ae λc=>absurd c (by simp)
def set_set{a:Type}(c:List a)(i:Nat)(d b:a):(c.set i d).set i b=c.set i b:=List.set_set _
def ahi{b:aB}(i r e:Int)(o:∀r,r∈b.aQ->Fit r.ai):Ok (B1 LC b i r e) λq=>(q.2≠0/\q.1=b)\/
 (q.2=0/\fw b/\0<=i/\(0<=e/\e<=3600)/\∃a,b.aN[i.toNat]?=c7 a/\a.akw<0/\0<=mQ b.ao r a.abG/\q.1={b with aN:=b.aN.set i.toNat ⟨a.abG,r,mQ b.ao r a.abG+e⟩}):=by
 unfold B1;refine aD (LZ [i] o (by simp)) λz m=>?_
 refine aV (λc=>ae (.inl ⟨c,rfl⟩)) (λc=>?_)
 obtain⟨h,f⟩:=m (eo.1 c);have f:=f i (by simp);have g:b.aN[i.toNat]?=c7 (b.aN[i.toNat]'(by omega)):=c6 (by omega);generalize b.aN[i.toNat]'(by omega)=a at g;have j:∀l:List bC,l[i.toNat]?=c7 a->aj l i=c7 a:=λl n=>by
  unfold aj;rw[if_pos f.1];exact n
 have v:=h.1.1;have:=v.2.1;rw[j _ g,aa,Tt _ _ _ (by omega),aa];refine aV (λc=>ae (.inl ⟨by simp,rfl⟩)) (λA=>?_)
 refine aV (λc=>ae (.inl ⟨by simp,rfl⟩)) (λw=>?_)
 rw[cF,aa,de];refine aV (λp=>?_) (λc=>ae (.inl ⟨by simp,rfl⟩))
 rw[Sy h.sm,aa];have s:i.toNat<b.aN.length:=by omega
 show Ok ((aj b.aN i).bind _) _
 rw[j _ g,aa];show Ok ((b.aN[i.toNat]?).bind _) _
 rw[g,aa];have k:(b.aN.set i.toNat (bC.mk a.abG r a.ami))[i.toNat]?=c7 (bC.mk a.abG r a.ami):=gv s;have t:aj (b.aN.set i.toNat (bC.mk a.abG r a.ami)) i=c7 (bC.mk a.abG r a.ami):=by unfold aj;rw[if_pos f.1];exact k
 show Ok ((aj (b.aN.set i.toNat (bC.mk a.abG r a.ami)) i).bind _) _
 rw[t,aa];show Ok (((b.aN.set i.toNat (bC.mk a.abG r a.ami))[i.toNat]?).bind _) _
 rw[k,aa];refine ae (.inr ⟨rfl,h,f.1,p,a,rfl,by omega,by omega,?_⟩)
 show({b with aN:=(b.aN.set i.toNat (bC.mk a.abG r a.ami)).set i.toNat (bC.mk a.abG r (c3 c4 (mQ b.ao r a.abG+e)))}:aB)=_
 have B:mQ b.ao r a.abG<=1000099:=by
  unfold mQ;have y:=rF b.ao r false (u:=6) (d:=9) (l:=12) (by decide);have x:=rF b.ao r true (u:=6) (d:=9) (l:=12) (by decide)
  split
  .split
   .split
    .omega
    .split <;> omega
   .omega
  .omega
 rw[set_set,aJ]
def cY(a:ak)(i:Int):ak:=⟨a.ai,match a.af[i.toNat]? with |some r=>a.af.set i.toNat {r with eN:=true} |none=>a.af⟩
def n8(i:Int)(a:bC):bC:=if a.akw=i then⟨a.abG,-1,0⟩ else a
def Uf{x:aB}(i:Int)(o:∀r,r∈x.aQ->Fit r.ai):Ok (wO LC x i) λq=>(q.2≠0/\q.1=x)\/
 (q.2=0/\fw x/\0<=i/\(∃r,x.ao.af[i.toNat]?=c7 r/\r.eN=false)/\q.1={x with ao:=cY x.ao i,aN:=x.aN.map (n8 i)}):=by
 unfold wO;rw[xf x o,aa,de]
 by_cases a:fw x
 rotate_left
 .rw[aG a];exact ae (.inl ⟨by simp,rfl⟩)
 rw[aC a];have s:=a.1.1.2.1;rw[aJ (n:=(x.ao.af.length:Int) -1),cF,aa,de]
 by_cases d:0<=i/\i<=(x.ao.af.length:Int) -1
 rotate_left
 .rw[aG d,aa];exact ae (.inl ⟨by simp,rfl⟩)
 have e:x.ao.af[i.toNat]?=c7 (x.ao.af[i.toNat]'(by omega)):=c6 (by omega);generalize x.ao.af[i.toNat]'(by omega)=r at e;have g:aj x.ao.af i=c7 r:=by unfold aj;rw[if_pos d.1];exact e
 rw[aC d,g,aa,aa];cases j:r.eN with
 |true=>exact ae (.inl ⟨by simp,rfl⟩)
 |false=>
  simp only[cond_false];rw[ans a.sm,aa];show Ok ((aj x.ao.af i).bind _) _
  rw[g,aa];show Ok ((x.ao.af[i.toNat]?).bind _) _
  rw[e,aa];have m:bO (λb=>vt LC x i b.1 b.2) (x.aN,0)=c7 (x.aN.map (n8 i)):=by
   refine NJ (n8 i) x.aN (λl aK k p h f t=>?_) (λaK h=>?_)
   .dsimp only;unfold vt;have u:=a.2.1;rw[aC,bn,f,aa,dk,f,aa,aa,aa,aJ (n:=(l:Int)+1)];unfold n8
    by_cases c:k.akw=i
    .rw[aC c,if_pos c,aa]
    .rw[aG c,if_neg c,aa,ou f]
   .dsimp only;unfold vt;rw[aG]
  show Ok ((bO (λb=>vt LC x i b.1 b.2) (x.aN,0)).bind _) _
  rw[m,aa];refine ae (.inr ⟨rfl,a,d.1,⟨r,rfl,j⟩,?_⟩)
  unfold cY;rw[e]
  rfl
def gL{c:Type}(d b:Int)(a:List c):List c:=match a[d.toNat]?,a[b.toNat]? with |some f,c7 e=>(a.set d.toNat e).set b.toNat f |_,_=>a
def Mm{c b:Int}{p:Type}{a:List Int}{h:List Int->Option p}(o:0<=c/\c<(a.length:Int))(g:0<=b/\b<(a.length:Int)):swp c b a h=h (gL c b a):=by
 have e:a[c.toNat]?=c7 (a[c.toNat]'(by omega)):=c6 (by omega);have f:a[b.toNat]?=c7 (a[b.toNat]'(by omega)):=c6 (by omega);unfold swp gL;generalize a[c.toNat]'(by omega)=l at e;generalize a[b.toNat]'(by omega)=d at f;have j:aj a c=c7 l:=by unfold aj;rw[if_pos o.1];exact e
 have k:aj a b=c7 d:=by unfold aj;rw[if_pos g.1];exact f
 have m:b.toNat<(a.set c.toNat d).length:=by rw[dT];omega
 have i:(a.set c.toNat d)[b.toNat]?=c7 ((a.set c.toNat d)[b.toNat]):=c6 m;have n:aj (a.set c.toNat d) b=c7 ((a.set c.toNat d)[b.toNat]):=by unfold aj;rw[if_pos g.1];exact i
 rw[k,aa,f,aa,j,aa,e,aa,aa,aa,n,aa,i,aa]
def ZX{x:aB}(i a:Int)(I:∀r,r∈x.aQ->Fit r.ai)(E:x.bp.length<=3):Ok (oX LC x i a) λq=>(q.2≠0/\q.1=x)\/
 (q.2=0/\fw x/\(0<=i/\i<(x.aN.length:Int))/\(0<=a/\a<(x.aN.length:Int))/\i≠a/\(∃j b,x.aN[i.toNat]?=c7 j/\x.aN[a.toNat]?=c7 b/\j.abG=b.abG)/\q.1={x with aw:=gL i a x.aw,bp:=x.bp.map (gL i a)}):=by
 unfold oX;refine aD (LZ [i,a] I (by simp)) λJ y=>?_
 refine aV (λn=>ae (.inl ⟨n,rfl⟩)) (λn=>?_)
 obtain⟨l,C⟩:=y (eo.1 n);have u:=C i (by simp);have p:=C a (by simp);refine aV (λn=>ae (.inl ⟨by simp,rfl⟩)) (λL=>?_)
 have w:x.aN[i.toNat]?=c7 (x.aN[i.toNat]'(by omega)):=c6 (by omega);have B:x.aN[a.toNat]?=c7 (x.aN[a.toNat]'(by omega)):=c6 (by omega);generalize x.aN[i.toNat]'(by omega)=j at w;generalize x.aN[a.toNat]'(by omega)=b at B;have O:aj x.aN i=c7 j:=by unfold aj;rw[if_pos u.1];exact w
 have M:aj x.aN a=c7 b:=by unfold aj;rw[if_pos p.1];exact B
 rw[O,aa,M,aa];refine aV (λn=>ae (.inl ⟨by simp,rfl⟩)) (λP=>?_)
 have N:=eo.1 P;have G:=l.2.2.1;have D:∀c,c∈x.bp->c.length=x.aN.length:=λc s=>by
  obtain⟨k,K,rfl⟩:=e5.1 s;obtain⟨_,_,_,J,_,_,_,t,_,_,_,y,_⟩:=l.2.2.2.2.2.2.2.2.1 k (by have:=l.2.2.2.2.2.2.2.1;omega);rw[c6 K] at t;injection t with t
  rw[t];exact y
 have m:=l.sm;have h:∀A:aB,A={x with aw:=gL i a x.aw,bp:=x.bp.map (gL i a)}->Ok (c7 (A,(0:Int))) λq=>(q.2≠0/\q.1=x)\/(q.2=0/\fw x/\(0<=i/\i<(x.aN.length:Int))/\(0<=a/\a<(x.aN.length:Int))/\i≠a/\(∃j b,x.aN[i.toNat]?=c7 j/\x.aN[a.toNat]?=c7 b/\j.abG=b.abG)/\q.1={x with aw:=gL i a x.aw,bp:=x.bp.map (gL i a)}):=
  λA H=>ae (.inr ⟨rfl,l,u,p,L,⟨j,b,w,B,N⟩,H⟩)
 have e:∀{z:Type} {k:List Int->Option z} (c:List Int),c∈x.bp->swp i a c k=k (gL i a c):=λc s=>Mm (by rw[D c s];exact u) (by rw[D c s];exact p)
 have v:∀{z:Type} {k:List Int->Option z},swp i a x.aw k=k (gL i a x.aw):=Mm (by rw[G];exact u) (by rw[G];exact p);have f:=m.mr
 match d:x.bp with
 |[]=>
  rw[d] at h;dsimp only;unfold we;rw[d];dsimp only;rw[oc m,aa];dsimp only;rw[v];exact h _ rfl
 |[g]=>
  rw[d] at h e f;dsimp only;unfold uR;rw[d];dsimp only;rw[oc m,bV (f g (by simp)),aa,aa];dsimp only;rw[v,e g (by simp)];exact h _ rfl
 |[g,o]=>
  rw[d] at h e f;dsimp only;unfold pO;rw[d];dsimp only;rw[oc m,bV (f g (by simp)),aa,bV (f o (by simp)),aa,aa];dsimp only;rw[v,e g (by simp),e o (by simp)];exact h _ rfl
 |[g,o,F]=>
  rw[d] at h e f;dsimp only;unfold nM;rw[d];dsimp only;rw[oc m,bV (f g (by simp)),aa,bV (f o (by simp)),aa,bV (f F (by simp)),aa,aa];dsimp only;rw[v,e g (by simp),e o (by simp),e F (by simp)];exact h _ rfl
 |_::_::_::_::_=>rw[d] at E;simp at E
def Bb{l:List Int}{x:Int}(c:Fit l):to LC l x=c7 (gg (λa=>c5 (x=a)) l):=by
 unfold to;exact fF (l:=l) (P:=λa=>c7 (c5 (x=a))) (p:=λa=>c5 (x=a)) (f:=λb=>Nf LC l x b) c (λ_ _=>rfl) (λb=>rfl)
def contains_eq{a:List Int}{b:Int}(d:Fit a):im LC a b=c7 (c5 (b∈a)):=by
 unfold im;rw[Bb d,aa,gm]
 congr 1
 rw[mx,m2,decide_eq_true_iff]
 constructor
 .rintro⟨f,e,c⟩;rw[of_decide_eq_true c];exact e
 .exact λc=>⟨b,c,decide_eq_true rfl⟩
def xj(e:ak)(a:List aS)(b d:List Int)(c:Int):aB:=⟨e,c,b.map λp=>⟨p,-1,0⟩,d,a,a.map λ_=>-1,a.map λ_=>-1,a.map λ_=>ee b.length 0⟩
def start_eq{d:ak}{b:List aS}{a e:List Int}{g:Int}(o:uG d b)(H:e.length=a.length)(J:1<=a.length/\a.length<=12)(F:∀p,p∈a->0<=p/\p<(d.ai.length:Int))(A:lz e)(B:0<=g/\g<=2147483648):
 Ef LC d b a e g=c7 (xj d b a e g,0):=by
 have q:=o.1;have m:=o.2.1;have t:∀r,r∈b->Sm r.ai:=λr s=>by
  have:=(o.2.2 r s).2.1.len (by omega);have:=q.1;exact cX (n:=64) (by omega) (by decide)
 unfold Ef;rw[Pm _ _ (λr s=>hD (t r s) (by decide)),aa,cF,aa,lA,ew rfl,fh rfl,aa,aG (by
  rintro(j |j |j)
  .exact j o
  .omega
  .omega)]
 have C:Cg LC a d=c7 (a.any λp=>!c5 (0<=p/\p<=(d.ai.length:Int) -1)):=by
  unfold Cg KC;have:=fF (l:=a) (P:=λu=>Ci LC u d) (p:=λp=>!c5 (0<=p/\p<=(d.ai.length:Int) -1)) (f:=λh=>KM LC a d h) (by omega) (λu I=>by
   unfold Ci;have:=q.1;rw[aJ,cF,aa]) (λh=>rfl)
  rw[show(LC.loop (λh=>KM LC a d h) 0).bind _=_ from this,aa,gm]
 rw[C,aa,HA,aG (λj=>j λp G=>by have:=F p G;omega),KN (cX (n:=12) (by omega) (by decide)),aa,decide_eq_true A,cF,aa,decide_eq_true B];simp only[ey,cond_false];have y:=jm (f:=λh=>tX LC a (L6 h) (T0 h)) a (λc i=>u8 (aB.mk d g (c.map λp=>⟨p,-1,0⟩) e b [] [] []) i) (λc=>u3 (aB.mk d g (c.map λp=>⟨p,-1,0⟩) e b [] [] [])) (λc r E j=>by
  show tX LC a (aB.mk d g (c.map λp=>⟨p,-1,0⟩) e b [] [] []) (c.length:Int)=_
  unfold tX;have k:=iy j;rw[aC k,jg j,aa,dm (by decide) (by rw[ev];omega),aa,aJ,hq]
  rfl) (by
  show tX LC a (aB.mk d g (a.map λp=>⟨p,-1,0⟩) e b [] [] []) (a.length:Int)=_
  unfold tX;rw[aG])
 refine(dL y).trans ?_
 have D:=jm (f:=λh=>sH LC b a (CU h) (Eg h)) b (λc i=>u1 (aB.mk d g (a.map λp=>⟨p,-1,0⟩) e b (c.map λ_=>-1) (c.map λ_=>-1) (c.map λ_=>ee a.length 0)) i) (λc=>u3 (aB.mk d g (a.map λp=>⟨p,-1,0⟩) e b (c.map λ_=>-1) (c.map λ_=>-1) (c.map λ_=>ee a.length 0))) (λc r E j=>by
  show sH LC b a (aB.mk d g (a.map λp=>⟨p,-1,0⟩) e b (c.map λ_=>-1) (c.map λ_=>-1) (c.map λ_=>ee a.length 0)) (c.length:Int)=_
  unfold sH;have k:=iy j;have v:c.length<=2000000:=by omega
  rw[aC k];dsimp only;rw[dm (by decide) (by rw[ev];exact v),nS (by omega) (by omega)];simp only[aa];rw[dm (by decide) (by rw[ev];exact v),aa,aJ,hq,hq]
  rfl) (by
  show sH LC b a (aB.mk d g (a.map λp=>⟨p,-1,0⟩) e b (b.map λ_=>-1) (b.map λ_=>-1) (b.map λ_=>ee a.length 0)) (b.length:Int)=_
  unfold sH;rw[aG])
 refine(congrArg (λz=>r3 z _) (dL D)).trans ?_
 show((yS LC (xj d b a e g)).bind _)=_
 rw[agL (x:=xj d b a e g) ⟨cX q.1 (by decide),cX q.2.1 (by decide),cX (n:=12) (by show(a.map _).length<=12;rw[ev];omega) (by decide),cX (n:=12) (by show e.length<=12;omega) (by decide),cX m (by decide),t,cX (n:=32) (by show(b.map _).length<=32;rw[ev];exact m) (by decide),cX (n:=32) (by show(b.map _).length<=32;rw[ev];exact m) (by decide),
  cX (n:=32) (by show(b.map _).length<=32;rw[ev];exact m) (by decide),λl k=>by
   have w:l∈b.map λ_=>ee a.length (0:Int):=k
   obtain⟨r,_,rfl⟩:=j9.1 w;exact cX (n:=12) (by rw[e6];omega) (by decide)⟩]
 rfl
structure Seen (x:aB) (rd:aS) (row row':List Int) (yp:List Int):Prop where
 len:row'.length=row.length
 tl:yp.length<=x.aN.length
 Hg:∀(i:Nat) (w:bC) (t:Int),x.aN[i]?=c7 w->x.aw[i]?=c7 t->∃v v',row[i]?=c7 v/\row'[i]?=c7 v'/\((v'=0/\(w.abG∈rd.ai->t∈yp))\/(v'=v+1/\v'<=rd.dY))
 tag:∀t,t∈yp->∃(i:Nat) (w:bC),x.aN[i]?=c7 w/\x.aw[i]?=c7 t/\w.abG∈rd.ai
structure Oq (x:aB) (rd:aS) (n:Nat) (row row':List Int) (yp:List Int):Prop where
 len:row'.length=row.length
 tl:yp.length<=n
 bG:∀i,n<=i->row'[i]?=row[i]?
 Hg:∀(i:Nat) (w:bC) (t:Int),i<n->x.aN[i]?=c7 w->x.aw[i]?=c7 t->∃v v',row[i]?=c7 v/\row'[i]?=c7 v'/\((v'=0/\(w.abG∈rd.ai->t∈yp))\/(v'=v+1/\v'<=rd.dY))
 tag:∀t,t∈yp->∃(i:Nat) (w:bC),x.aN[i]?=c7 w/\x.aw[i]?=c7 t/\w.abG∈rd.ai
abbrev LkS:Type:=List Int×Int×Int×Int×List Int×Int
def ZP{c:aB}(D:fw c){j:aS}(L:Fit j.ai)(B:Int){row:List Int}(Z:row.length=c.aN.length)(I:∀v,v∈row->0<=v/\v<=10)(C b y:Int):
 Ok (bO (λh:LkS=>EV LC c B j h.1 h.2.1 h.2.2.1 h.2.2.2.1 h.2.2.2.2.1 h.2.2.2.2.2) (row,C,b,y,([]:List Int),0)) λk=>match k with
  | .inl k=>k=(c.ao.ai,c.ao.af,c.aa0,c.aN,c.aw,c.aQ,c.cn,c.cf,c.bp,0,0,0,([]:List Int),43)
  | .inr k=>k.2.1=C/\k.2.2.1=b/\k.2.2.2.1=y/\Seen c j row k.1 k.2.2.2.2:=by
 have ad:=D.2.1;have ab:=D.2.2.1;refine di c.aN.length (λi h=>∃g f,h=(g,C,b,y,f,(i:Int))/\Oq c j i row g f) _ (λi h S A=>?_) (λh A=>?_) _ ⟨row,[],rfl,⟨rfl,by simp,λ_ _=>rfl,λi l o a=>by omega,λo a=>by cases a⟩⟩
 .obtain⟨g,f,rfl,d⟩:=A;have m:c.aN[i]?=c7 c.aN[i]:=c6 S;have p:c.aw[i]?=c7 (c.aw[i]'(by omega)):=c6 (by omega);have w:row[i]?=c7 (row[i]'(by omega)):=c6 (by omega);generalize c.aN[i]=l at m;generalize c.aw[i]'(by omega)=o at p;have O:=I _ (dd (show i<row.length by omega));generalize row[i]'(by omega)=v at w O;have F:g[i]?=c7 v:=(d.bG i (h9 _)).trans w;have G:i<g.length:=by rw[d.len];omega
  dsimp only;unfold EV;rw[aC,bn,m,aa,contains_eq L,aa,AD (by omega),aa,bn,F,aa];have next:∀(z:Int) (q:List Int),((z=0/\(l.abG∈j.ai->o∈q))\/(z=v+1/\z<=j.dY))->(∀e,e∈f->e∈q)->q.length<=f.length+1->(∀e,e∈q->e∈f\/(e=o/\l.abG∈j.ai))->Oq c j (i+1) row (g.set i z) q:=by
   intro z q J X ac Y;refine⟨by rw[dT,d.len],by have:=d.tl;omega,λu H=>?_,λu K T H t s=>?_,λe Q=>?_⟩
   .rw[hz (by omega)];exact d.bG u (by omega)
   .by_cases E:u=i
    .subst E;rw[m] at t;rw[p] at s;injection t with t
     injection s with s
     subst t s;exact⟨v,z,w,gv G,J⟩
    .obtain⟨P,M,V,N,r⟩:=d.Hg u K T (by omega) t s;refine⟨P,M,V,by rw[hz (λa=>E a.symm)];exact N,?_⟩
     rcases r with⟨r,R⟩ |r
     .exact .inl ⟨r,λa=>X _ (R a)⟩
     .exact .inr r
   .rcases Y e Q with a |⟨rfl,a⟩
    .exact d.tag e a
    .exact⟨i,l,m,p,a⟩
  have U:(bif c5 (l.abG∈j.ai) then c7 (c5 (bits .and .i64 (B.fdiv (2^ (min (i:Int).toNat IntKind.i64.bits))) 1=1)) else c7 false)=c7 (c5 (l.abG∈j.ai/\bits .and .i64 (B.fdiv (2^ (min (i:Int).toNat IntKind.i64.bits))) 1=1)):=fm rfl;rw[U,aa,dk,F,aJ (n:=(i:Int)+1)];simp only[aa];rw[aJ (n:=v+1)];refine aV (λW=>?_) (λW=>?_)
  .rw[gv G,aa];refine aV (λa=>ae rfl) (λa=>ae ⟨g.set i (v+1),f,rfl,next _ _ (.inr ⟨rfl,by omega⟩) (λ_ a=>a) (by omega) (λe a=>.inl a)⟩)
  .refine aV (λx=>?_) (λx=>ae ⟨g.set i 0,f,rfl,next _ _ (.inl ⟨rfl,λa=>absurd a x⟩) (λ_ a=>a) (by omega) (λe a=>.inl a)⟩)
   have:=d.tl;rw[bn,p,aa,dm (by decide) (by omega),aa];refine ae ⟨g.set i 0,f++[o],rfl,next _ _ (.inl ⟨rfl,λ_=>by simp⟩) (λe a=>by simp[a]) (by simp) (λe a=>?_)⟩
   rcases e4.1 a with a |a
   .exact .inl a
   .exact .inr ⟨by simpa using a,x⟩
 .obtain⟨g,f,rfl,d⟩:=A;dsimp only;unfold EV;rw[aG];exact ae ⟨rfl,rfl,rfl,d.len,d.tl,λi l o m p=>d.Hg i l o (dt.1 m).1 m p,d.tag⟩
structure cf (x:aB) (k:Nat) (off:Int) (rd:aS) (x':aB) (r:aT):Prop where
 ok:fw x
 eZ:x.aQ[k]?=c7 rd
 QX: -rd.cR<=off/\off<=rd.cR
 aqK:0<=x.aa0+off/\x.aa0+off<=2147483648
 ex:∃row row' yp a l,x.bp[k]?=c7 row/\x.cn[k]?=c7 a/\x.cf[k]?=c7 l/\Seen x rd row row' yp/\r.aj6=(a+(if 0<=l/\rd.dX<x.aa0 -l then 2 else 1)).tmod 65536/\r.agX=k/\r.aa0=x.aa0+off/\r.aw=dQ yp/\
  x'={x with cn:=x.cn.set k r.aj6,cf:=x.cf.set k x.aa0,bp:=x.bp.set k row'}
def ua{a:aB}(d:fw a){g:Nat}{u f:Int}{c:aS}(h:a.aQ[g]?=c7 c)(E: -c.cR<=f/\f<=c.cR)(y:0<=a.aa0+f/\a.aa0+f<=2147483648){row:List Int}(t:a.bp[g]?=c7 row)(x:List Int->List (List Int))(C:∀r,x r=a.bp.set g r):
 Ok (qw LC a (g:Int) u f c a.aw a.cn a.cf row x (a.ao.ai,a.ao.af,a.aa0,a.aN,a.aQ)) λq=>(q.2.2≠0/\q.1=a)\/(q.2.2=0/\cf a g f c q.1 q.2.1):=by
 have A:=(dt.1 h).1;obtain⟨_,w,b,N,i,o,l,j,L,K,_,B,I⟩:=d.2.2.2.2.2.2.2.2.1 g A;rw[h] at i;injection i with i
 subst i;rw[t] at j;injection j with j
 subst j;have M:=d.2.2.2.2.1;have F:=d.1.2.2 c (fC h);unfold qw;rw[bn,l,aa,aa,aJ (n:=a.aa0 -b)];have J:(bif c5 (0<=b) then c7 (c5 (c.dX<a.aa0 -b)) else c7 false)=c7 (c5 (0<=b/\c.dX<a.aa0 -b)):=fm rfl;rw[J,aa];have D:(bif c5 (0<=b/\c.dX<a.aa0 -b) then c7 (2:Int) else c7 1)=c7 (if 0<=b/\c.dX<a.aa0 -b then 2 else 1):=by
  by_cases k:0<=b/\c.dX<a.aa0 -b
  .rw[aC k,if_pos k]
  .rw[aG k,if_neg k]
 rw[D,aa,bn,o,aa];have O:(1:Int)<=(if 0<=b/\c.dX<a.aa0 -b then 2 else 1)/\(if 0<=b/\c.dX<a.aa0 -b then(2:Int) else 1)<=2:=by split <;> omega
 rw[aJ (n:=w+_),D7 (by omega),aa,aa,dk,o,aa,aa,l,aa,aJ (n:=a.aa0+f)];refine aD (ZP d (by have:=d.sm.rp c (fC h);exact hD this (by decide)) u B (λv z=>by have:=I v z;have:=F.2.2.2.1;omega) _ _ _) λe m=>?_
 cases e with
 |inl e=>
  dsimp only at m;subst m;exact ae (.inl ⟨by simp,rfl⟩)
 |inr e=>
  obtain⟨H,p,G,s⟩:=m;dsimp only[ej];have P:=d.2.1;have:=s.tl;rw[show rC e.2.2.2.2=rl LC e.2.2.2.2 from rfl,zF (cX (n:=12) (by omega) (by decide)),aa];refine ae (.inr ⟨rfl,d,h,E,y,row,e.1,e.2.2.2.2,w,b,t,o,l,s,p,H,G,rfl,?_⟩)
  rw[C,p]
def look_ok{x:aB}(f z h:Int)(G:∀r,r∈x.aQ->Fit r.ai)(y:x.bp.length<=3)(L:0<=f)(M:f<max 1 (x.aQ.length:Int))(s:x.bp.length=x.aQ.length):
 Ok (jO LC x f z h) λq=>(q.2.2≠0/\q.1=x)\/(q.2.2=0/\∃(n:Nat) (d:aS),f=(n:Int)/\cf x n h d q.1 q.2.1):=by
 have head:∀(u:aS->Option (aB×aT×Int)),(∀(n:Nat) (d:aS),f=(n:Int)->fw x->x.aQ[n]?=c7 d->(-d.cR<=h/\h<=d.cR)->(0<=x.aa0+h/\x.aa0+h<=2147483648)->Ok (u d) λq=>(q.2.2≠0/\q.1=x)\/(q.2.2=0/\cf x n h d q.1 q.2.1))->
  Ok (po LC x f z h u) λq=>(q.2.2≠0/\q.1=x)\/(q.2.2=0/\∃(n:Nat) (d:aS),f=(n:Int)/\cf x n h d q.1 q.2.1):=by
  intro u E;unfold po;rw[xf x G,aa,de];refine aV (λc=>?_) (λc=>ae (.inl ⟨by simp,rfl⟩))
  rw[aJ,cF,aa,de];refine aV (λH=>?_) (λc=>ae (.inl ⟨by simp,rfl⟩))
  have A:f.toNat<x.aQ.length:=by omega
  have g:x.aQ[f.toNat]?=c7 x.aQ[f.toNat]:=c6 A;have v:aj x.aQ f=c7 x.aQ[f.toNat]:=qC H.1 (by omega);have C:=c.1.2.2 _ (dd A);generalize x.aQ[f.toNat]=d at g v C;have K:=c.2.2.2.2.1;have J:=C.2.2.2.2;rw[v,aa,aJ (n:=0 -d.cR),cF,aa]
  by_cases B:0 -d.cR<=h/\h<=d.cR
  rotate_left
  .rw[decide_eq_false B];exact ae (.inl ⟨by simp,rfl⟩)
  rw[decide_eq_true B,aJ (n:=x.aa0+h),cF];simp only[aa,ey,cond_false,de];refine aV (λD=>?_) (λ_=>ae (.inl ⟨by simp,rfl⟩))
  refine WI (E f.toNat d (by omega) c g (by omega) D) λq o=>?_
  rcases o with o |⟨h0,o⟩
  .exact .inl o
  .exact .inr ⟨h0,f.toNat,d,by omega,o⟩
 have F:∀{I:Prop},x.aQ.length=0->∀(n:Nat) (d:aS),x.aQ[n]?=c7 d->I:=λN n d g=>by
  have:=(dt.1 g).1;omega
 unfold jO
 match a:x.bp with
 |[]=>
  dsimp only;have h0:x.aQ.length=0:=by rw[<-s,a];rfl
  rw[aC];exact head _ λn d _ _ g=>F h0 n d g
 |[i]=>
  dsimp only;have h0:x.aQ.length=1:=by rw[<-s,a];rfl
  rw[aC (show f=0 by omega)];refine head _ λn d k c g l b=>?_
  have j:n=0:=by omega
  subst j k;have e:=c.sm.mr;rw[a] at e;unfold uR;rw[a];dsimp only;rw[oc c.sm,bV (e i (by simp)),aa,aa];exact ua c g l b (row:=i) (by rw[a];rfl) (λr=>[r]) (λr=>by rw[a];rfl)
 |[i,m]=>
  dsimp only;have h0:x.aQ.length=2:=by rw[<-s,a];rfl
  by_cases p:f=0
  .rw[aC p];refine head _ λn d k c g l b=>?_
   have j:n=0:=by omega
   subst j k;have e:=c.sm.mr;rw[a] at e;unfold pO;rw[a];dsimp only;rw[oc c.sm,bV (e i (by simp)),aa,bV (e m (by simp)),aa,aa];exact ua c g l b (row:=i) (by rw[a];rfl) _ (λr=>by rw[a];rfl)
  .rw[aG p,aC (show f=1 by omega)];refine head _ λn d k c g l b=>?_
   have j:n=1:=by omega
   subst j k;have e:=c.sm.mr;rw[a] at e;unfold pO;rw[a];dsimp only;rw[oc c.sm,bV (e i (by simp)),aa,bV (e m (by simp)),aa,aa];exact ua c g l b (row:=m) (by rw[a];rfl) _ (λr=>by rw[a];rfl)
 |[i,m,t]=>
  dsimp only;have h0:x.aQ.length=3:=by rw[<-s,a];rfl
  by_cases p:f=0
  .rw[aC p];refine head _ λn d k c g l b=>?_
   have j:n=0:=by omega
   subst j k;have e:=c.sm.mr;rw[a] at e;unfold nM;rw[a];dsimp only;rw[oc c.sm,bV (e i (by simp)),aa,bV (e m (by simp)),aa,bV (e t (by simp)),aa,aa];exact ua c g l b (row:=i) (by rw[a];rfl) _ (λr=>by rw[a];rfl)
  .rw[aG p]
   by_cases w:f=1
   .rw[aC w];refine head _ λn d k c g l b=>?_
    have j:n=1:=by omega
    subst j k;have e:=c.sm.mr;rw[a] at e;unfold nM;rw[a];dsimp only;rw[oc c.sm,bV (e i (by simp)),aa,bV (e m (by simp)),aa,bV (e t (by simp)),aa,aa];exact ua c g l b (row:=m) (by rw[a];rfl) _ (λr=>by rw[a];rfl)
   .rw[aG w,aC (show f=2 by omega)];refine head _ λn d k c g l b=>?_
    have j:n=2:=by omega
    subst j k;have e:=c.sm.mr;rw[a] at e;unfold nM;rw[a];dsimp only;rw[oc c.sm,bV (e i (by simp)),aa,bV (e m (by simp)),aa,bV (e t (by simp)),aa,aa];exact ua c g l b (row:=t) (by rw[a];rfl) _ (λr=>by rw[a];rfl)
 |_::_::_::_::_=>rw[a] at y;simp at y
end Go.X.T
namespace Go.X.T
open Go Go.Aml Go.Top
def fn(a:List Int)(p:Int):Int:=a.getD p.toNat 0
def fD(a:Int):Prop:=(0<=a/\a<=2147483648)\/a=1099511627776
instance (a:Int):Decidable (fD a):=by unfold fD;infer_instance
def Q4{b:List Int}{p a:Int}(c:b[p.toNat]?=c7 a):fn b p=a:=pu c
def iD{l:List Int}{p:Int}(h0:0<=p)(a:p<(l.length:Int)):l[p.toNat]?=c7 (fn l p):=by
 rw[c6 (by omega),fn,pu (c6 (by omega))]
def gH{l:List Int}{p:Int}(h0:0<=p)(a:p<(l.length:Int)):aj l p=c7 (fn l p):=by
 unfold aj;rw[if_pos h0];exact iD h0 a
def oR{l:List Int}{p:Int}(h0:0<=p)(a:p<(l.length:Int)):fn l p∈l:=fC (iD h0 a)
def wy{l:List Int}{p q x:Int}(h0:0<=p)(c:p<(l.length:Int))(b:0<=q):fn (l.set p.toNat x) q=if q=p then x else fn l q:=by
 unfold fn;rw[ec,hK]
 by_cases a:q=p
 .subst a;rw[if_pos rfl,if_pos rfl,if_pos (by omega)];rfl
 .rw[if_neg a,if_neg (by omega),ec]
def rL(m:ak):vG:=λp q a=>∃(i:Nat) (r:aZ) (b:Bool),m.af[i]?=c7 r/\wT m (i:Int) b 6 9 12=a/\0<=a/\p=(if b then r.To else r.an)/\q=(if b then r.an else r.To)
def x8(S:Int->Bool)(b:List Int×Bool)(q a t:Int):List Int×Bool:=if max a t<=2147483648/\max a t<fn b.1 q/\S q=true then(b.1.set q.toNat (max a t),true) else b
def gn(m:ak)(S:Int->Bool)(t:Int)(i:Nat)(r:aZ)(b:Bool)(a:List Int×Bool):List Int×Bool:=
 if 0<=wT m (i:Int) b 6 9 12/\fn a.1 (if b then r.To else r.an)<1099511627776 then x8 S a (if b then r.an else r.To) (fn a.1 (if b then r.To else r.an)+wT m (i:Int) b 6 9 12) t else a
def e9(m:ak)(S:Int->Bool)(t:Int):Nat->Nat->List Int×Bool->List Int×Bool
 |0,_,a=>a
 |b+1,i,a=>e9 m S t b (i+1) (match m.af[i]? with |some r=>gn m S t i r true (gn m S t i r false a) |none=>a)
structure LI (m:ak) (S:Int->Bool) (t:Int) (g aK:List Int):Prop where
 len:aK.length=g.length
 le:∀p,0<=p->p<(g.length:Int)->fn aK p<=fn g p
 sh:∀x,x∈aK->fD x
 low:∀h:Int->Int,pG (rL m) t (λq=>S q=true) h->(∀p,0<=p->p<(g.length:Int)->h p<=fn g p)->∀p,0<=p->p<(g.length:Int)->h p<=fn aK p
def jJ:List Int->Int
 |[]=>0
 |a::b=>a+jJ b
def Gn:∀{l:List Int},(∀a,a∈l->fD a)->0<=jJ l
 |[],_=>fe _
 |a::l,b=>by
  have d:=b a (by simp);have f:=Gn (l:=l) λc e=>b c (by simp[e])
  unfold jJ;unfold fD at d;omega
def Mk:∀{b:List Int} {i:Nat} {c a:Int},b[i]?=c7 a->jJ (b.set i c)=jJ b -a+c
 |[],i,c,a,d=>by simp at d
 |e::b,0,c,a,d=>by
  have:e=a:=by simpa using d
  subst this;rw[hY];unfold jJ;omega
 |e::b,i+1,c,a,d=>by
  have f:b[i]?=c7 a:=by simpa using d
  rw[l2];unfold jJ;rw[Mk f];omega
section
variable {m:ak}{S:Int->Bool}{t:Int}{g:List Int}
def Cn(c:cP m){i:Nat}{r:aZ}(a:m.af[i]?=c7 r)(b:Bool):(0<=(if b then r.To else r.an)/\(if b then r.To else r.an)<(m.ai.length:Int))/\(0<=(if b then r.an else r.To)/\(if b then r.an else r.To)<(m.ai.length:Int)):=by
 have d:=(c.2.2.2 r (fC a)).1;cases b
 .simp only[j5,if_false];omega
 .simp only[if_true];omega
def om(N:cP m)(R:0<=t)(O:g.length=m.ai.length){i:Nat}{r:aZ}(F:m.af[i]?=c7 r)(b:Bool){a:List Int×Bool}(c:LI m S t g a.1):
 LI m S t g (gn m S t i r b a).1/\((gn m S t i r b a=a/\pG (λp q k=>p=(if b then r.To else r.an)/\q=(if b then r.an else r.To)/\k=wT m (i:Int) b 6 9 12/\0<=k) t (λq=>S q=true) (fn a.1))\/((gn m S t i r b a).2=true/\jJ (gn m S t i r b a).1<jJ a.1)):=by
 obtain⟨y,s⟩:=Cn N F b;have Q:=rF m (i:Int) b (u:=6) (d:=9) (l:=12) (by decide);unfold gn x8;generalize H:(if b then r.To else r.an)=e at y⊢;generalize M:(if b then r.an else r.To)=n at s⊢;have I:=c.len
 by_cases j:0<=wT m (i:Int) b 6 9 12/\fn a.1 e<1099511627776
 .rw[if_pos j]
  by_cases h:max (fn a.1 e+wT m (i:Int) b 6 9 12) t<=2147483648/\max (fn a.1 e+wT m (i:Int) b 6 9 12) t<fn a.1 n/\S n=true
  .rw[if_pos h];have A:=λq K=>wy (l:=a.1) (p:=n) (q:=q) (x:=max (fn a.1 e+wT m (i:Int) b 6 9 12) t) s.1 (by omega) K
   have P:=c.sh _ (oR (l:=a.1) y.1 (by omega));refine⟨⟨by rw[dT];exact I,λp f w=>?_,λx o=>?_,λG C J p f w=>?_⟩,.inr ⟨rfl,?_⟩⟩
   .rw[A p f];have:=c.le p f w
    split
    .rename_i v;subst v;omega
    .exact this
   .rcases eE o with o |rfl
    .exact c.sh x o
    .left;omega
   .rw[A p f];have B:=c.low G C J
    split
    .rename_i v;subst v;have T:=B e y.1 (by omega);have:=C e p _ ⟨i,r,b,F,rfl,j.1,H.symm,M.symm⟩ h.2.2 (by unfold T5;omega) (by unfold SM;omega);omega
    .exact B p f w
   .rw[Mk (iD s.1 (by omega))];omega
  .rw[if_neg h];refine⟨c,.inl ⟨rfl,?_⟩⟩
   rintro p q k ⟨rfl,rfl,rfl,h0⟩ D E z;refine Int.not_lt.1 λL=>h ⟨z,L,D⟩
 .rw[if_neg j];refine⟨c,.inl ⟨rfl,?_⟩⟩
  rintro p q k ⟨rfl,rfl,rfl,h0⟩ D E z;exact absurd ⟨h0,E⟩ j
def S5{i:Nat}{r:aZ}{b:Bool}{a:List Int×Bool}(c:a.2=true):(gn m S t i r b a).2=true:=by
 unfold gn x8;generalize (if b then r.To else r.an)=d;generalize (if b then r.an else r.To)=e
 split
 .split
  .rfl
  .exact c
 .exact c
def De:∀{c i:Nat} {b:List Int×Bool},b.2=true->(e9 m S t c i b).2=true
 |0,_,_,a=>a
 |c+1,i,b,a=>by
  unfold e9;refine De ?_
  split
  .exact S5 (S5 a)
  .exact a
def PJ(w:cP m)(u:0<=t)(s:g.length=m.ai.length):∀(c i:Nat) (a:List Int×Bool),LI m S t g a.1->i+c=m.af.length->
 LI m S t g (e9 m S t c i a).1/\jJ (e9 m S t c i a).1<=jJ a.1/\((e9 m S t c i a).2=true/\jJ (e9 m S t c i a).1<jJ a.1\/e9 m S t c i a=a/\∀e,i<=e->∀r b,m.af[e]?=c7 r->pG (λp q A=>p=(if b then r.To else r.an)/\q=(if b then r.an else r.To)/\A=wT m (e:Int) b 6 9 12/\0<=A) t (λq=>S q=true) (fn a.1))
 |0,i,a,n,G=>⟨n,fe _,.inr ⟨rfl,λe B r b h=>by have:=(dt.1 h).1;omega⟩⟩
 |c+1,i,a,n,G=>by
  have y:i<m.af.length:=by omega
  unfold e9;rw[c6 y];have h:=c6 y;dsimp only;generalize m.af[i]=r at h;obtain⟨I,d⟩:=om w u s h false n;obtain⟨F,j⟩:=om w u s h true I;obtain⟨k,v,f⟩:=PJ w u s c (i+1) _ F (by omega);have H:∀o,o=gn m S t i r true (gn m S t i r false a)->o.2=true->(e9 m S t c (i+1) o).2=true:=λo _ n=>De n
  rcases j with⟨j,x⟩ |⟨j,x⟩
  .rw[j] at k v f H⊢;rcases d with⟨d,z⟩ |⟨d,z⟩
   .rw[d] at k v f x⊢;refine⟨k,v,?_⟩
    rcases f with f |⟨f,D⟩
    .exact .inl f
    .refine .inr ⟨f,λe B C b l=>?_⟩
     by_cases E:e=i
     .subst E;rw[h] at l;injection l with l
      subst l;cases b
      .exact z
      .exact x
     .exact D e (by omega) C b l
   .exact⟨k,by omega,.inl ⟨De d,by omega⟩⟩
  .have:jJ (gn m S t i r false a).1<=jJ a.1:=by
    rcases d with⟨d,_⟩ |⟨_,d⟩
    .rw[d];exact fe _
    .omega
   exact⟨k,by omega,.inl ⟨De j,by omega⟩⟩
end
structure eF (m:ak) (S:Int->Bool) (t:Int) (g out:List Int):Prop extends LI m S t g out where
 cl:pG (rL m) t (λq=>S q=true) (fn out)
def afo{aK:List Int}{d:Bool}{p q a t:Int}(h0:0<=q)(c:q<(aK.length:Int)):CB LC aK d p q a t=c7 (x8 (λ_=>true) (aK,d) q a t):=by
 unfold CB KJ;rw[gH h0 c,iD h0 c];simp only[aa];have f:(bif c5 (max a t<=2147483648) then bif c5 (max a t<fn aK q) then c7 true else c7 false else c7 false)=c7 (c5 (max a t<=2147483648/\max a t<fn aK q/\(λ_=>true) q=true)):=by
  refine fm ?_
  by_cases b:max a t<fn aK q
  .rw[aC b,decide_eq_true ⟨b,rfl⟩]
  .rw[aG b,decide_eq_false (λe=>b e.1)]
 rw[f,aa]
 by_cases b:max a t<=2147483648/\max a t<fn aK q/\(λ_:Int=>true) q=true
 .rw[aC b];exact(congrArg c7 (if_pos b)).symm
 .rw[aG b];exact(congrArg c7 (if_neg b)).symm
def afB{aK:List Int}{c:Bool}{p q a t:Int}{S:List Int}(e:Fit S)(h0:0<=q)(d:q<(aK.length:Int)):DD LC aK c p q a t S=c7 (x8 (λf=>c5 (f∈S)) (aK,c) q a t):=by
 unfold DD Gs;rw[gH h0 d,iD h0 d,contains_eq e];simp only[aa];have h:(bif c5 (max a t<=2147483648) then bif c5 (max a t<fn aK q) then c7 (c5 (q∈S)) else c7 false else c7 false)=c7 (c5 (max a t<=2147483648/\max a t<fn aK q/\c5 (q∈S)=true)):=by
  refine fm ?_
  rw[fm rfl]
  congr 1
  apply decide_eq_decide.2
  rw[decide_eq_true_iff]
 rw[h,aa]
 by_cases b:max a t<=2147483648/\max a t<fn aK q/\c5 (q∈S)=true
 .rw[aC b];exact(congrArg c7 (if_pos b)).symm
 .rw[aG b];exact(congrArg c7 (if_neg b)).symm
def akO{b:Type}{f:b->Int->Option ((b×Int)⊕b)}(g:Bool->b->b)(a:b)(h0:f a 0=c7 (.inl (g false a,1)))(d:f (g false a) 1=c7 (.inl (g true (g false a),2)))(c:∀a,f a 2=c7 (.inr a)):bO (λa:b×Int=>f a.1 a.2) (a,0)=c7 (g true (g false a)):=by
 rw[iO (f:=λa:b×Int=>f a.1 a.2) h0,iO (f:=λa:b×Int=>f a.1 a.2) d];exact fZ (c _)
section
variable {m:ak}{t:Int}
def Nb{b a:Int}(c:fD b)(d:a= -1\/(1<=a/\a<=1000099)):c3 c4 (b+a)=b+a:=by
 unfold fD at c;exact aJ
def P9(q:cP m){aK:List Int}{e:Bool}(y:aK.length=m.ai.length)(w:∀h,h∈aK->fD h){i:Nat}{r:aZ}(o:m.af[i]?=c7 r)(b:Bool)(a:Int)(j:aj [false,true] a=c7 b)(s:0<=a/\a<2):
 th LC r m (i:Int) t aK e a=c7 (.inl ((gn m (λ_=>true) t i r b (aK,e)).1,(gn m (λ_=>true) t i r b (aK,e)).2,a+1)):=by
 obtain⟨c,f⟩:=Cn q o b;have k:=rF m (i:Int) b (u:=6) (d:=9) (l:=12) (by decide);unfold th;rw[aC s.2,j,aa];have v:(bif b then c7 (r.To,r.an) else c7 (r.an,r.To))=c7 ((if b then r.To else r.an),(if b then r.an else r.To)):=by cases b <;> rfl
 rw[v,aa,Cv,aa];dsimp only;unfold gn;generalize (if b then r.To else r.an)=x at c⊢;generalize (if b then r.an else r.To)=z at f⊢;have p:=w _ (oR (l:=aK) c.1 (by omega));rw[gH (l:=aK) c.1 (by omega),iD (l:=aK) c.1 (by omega)];simp only[aa];rw[fm rfl,aa,wL,Nb p k,afo f.1 (by omega),aa,aJ (n:=a+1)]
 split <;> rfl
def MK(s:cP m){aK:List Int}{f:Bool}{S:List Int}(o:Fit S)(z:aK.length=m.ai.length)(x:∀c,c∈aK->fD c){i:Nat}{r:aZ}(p:m.af[i]?=c7 r)(b:Bool)(a:Int)(j:aj [false,true] a=c7 b)(v:0<=a/\a<2):
 tY LC r m (i:Int) t S aK f a=c7 (.inl ((gn m (λc=>c5 (c∈S)) t i r b (aK,f)).1,(gn m (λc=>c5 (c∈S)) t i r b (aK,f)).2,a+1)):=by
 obtain⟨e,h⟩:=Cn s p b;have k:=rF m (i:Int) b (u:=6) (d:=9) (l:=12) (by decide);unfold tY;rw[aC v.2,j,aa];have w:(bif b then c7 (r.To,r.an) else c7 (r.an,r.To))=c7 ((if b then r.To else r.an),(if b then r.an else r.To)):=by cases b <;> rfl
 rw[w,aa,Cv,aa];dsimp only;unfold gn;generalize (if b then r.To else r.an)=y at e⊢;generalize (if b then r.an else r.To)=A at h⊢;have q:=x _ (oR (l:=aK) e.1 (by omega));rw[gH (l:=aK) e.1 (by omega),iD (l:=aK) e.1 (by omega)];simp only[aa];rw[fm rfl,aa,wL,Nb q k,afB o h.1 (by omega),aa,aJ (n:=a+1)]
 split <;> rfl
def O4{e:Type}{f:List Int->Bool->Int->Option ((List Int×Bool×Int)⊕e)}{c d b:List Int×Bool}{r:e}(h0:f c.1 c.2 0=c7 (.inl (d.1,d.2,1)))(i:f d.1 d.2 1=c7 (.inl (b.1,b.2,2)))(h:f b.1 b.2 2=c7 (.inr r)):bO (λa:List Int×Bool×Int=>f a.1 a.2.1 a.2.2) (c.1,c.2,0)=c7 r:=by
 rw[iO (f:=λa:List Int×Bool×Int=>f a.1 a.2.1 a.2.2) h0,iO (f:=λa:List Int×Bool×Int=>f a.1 a.2.1 a.2.2) i];exact fZ h
def yj{S:Int->Bool}:∀(a i:Nat) (b:List Int×Bool),e9 m S t (a+1) i b=(match m.af[i+a]? with |some r=>gn m S t (i+a) r true (gn m S t (i+a) r false (e9 m S t a i b)) |none=>e9 m S t a i b)
 |0,i,b=>by unfold e9 e9;rfl
 |a+1,i,b=>by
  rw[e9];rw[yj a (i+1)];rw[show i+1+a=i+(a+1) by omega]
  rfl
def aeq(h:cP m)(j:0<=t){aK:List Int}(i:aK.length=m.ai.length)(v:∀o,o∈aK->fD o):yf LC aK false m t=c7 ((e9 m (λ_=>true) t m.af.length 0 (aK,false)).1,(e9 m (λ_=>true) t m.af.length 0 (aK,false)).2):=by
 unfold yf;have x:LI m (λ_=>true) t aK aK:=⟨rfl,λ_ _ _=>fe _,v,λC _ p=>p⟩;have A:=h.2.1;have z:∀a,a<=m.af.length->LI m (λ_=>true) t aK (e9 m (λ_=>true) t a 0 (aK,false)).1:=by
  intro a
  induction a with
  |zero=>intro _;exact x
  |succ a q=>
   intro n;have w:a<m.af.length:=by omega
   have e:=c6 w;rw[yj,m6,e];exact(om h j i e true (om h j i e false (q (by omega))).1).1
 have s:=nV (f:=λd:List Int×Bool×Int=>vN LC m t d.1 d.2.1 d.2.2) m.af.length (λa=>((e9 m (λ_=>true) t a 0 (aK,false)).1,(e9 m (λ_=>true) t a 0 (aK,false)).2,(a:Int))) (e9 m (λ_=>true) t m.af.length 0 (aK,false)) (λa n=>?_) (by
  dsimp only;unfold vN;rw[aG])
 .rw[show LC.loop (λd:List Int×Bool×Int=>vN LC m t d.1 d.2.1 d.2.2) (aK,false,0)=_ from s,aa]
 .dsimp only;have e:=c6 n;have l:=z a (by omega);have k:=(om h j i e false l).1;have B:=(om h j i e true k).1;unfold vN;rw[aC,bn,e,aa];have u:=O4 (f:=λy b c=>th LC m.af[a] m (a:Int) t y b c) (c:=e9 m (λ_=>true) t a 0 (aK,false)) (r:=gn m (λ_=>true) t a m.af[a] true (gn m (λ_=>true) t a m.af[a] false (e9 m (λ_=>true) t a 0 (aK,false))))
   (P9 h (l.len.trans i) l.sh e false 0 rfl (by decide)) (P9 h (k.len.trans i) k.sh e true 1 rfl (by decide)) (by unfold th;rfl)
  rw[show LC.loop (λd:List Int×Bool×Int=>th LC m.af[a] m (a:Int) t d.1 d.2.1 d.2.2) _=_ from u,aa,aJ,yj,m6,e]
  rfl
def UZ(i:cP m)(k:0<=t){S:List Int}(p:Fit S){aK:List Int}(j:aK.length=m.ai.length)(w:∀a,a∈aK->fD a):Bj LC aK false m t S=c7 ((e9 m (λa=>c5 (a∈S)) t m.af.length 0 (aK,false)).1,(e9 m (λa=>c5 (a∈S)) t m.af.length 0 (aK,false)).2):=by
 unfold Bj;have y:LI m (λa=>c5 (a∈S)) t aK aK:=⟨rfl,λ_ _ _=>fe _,w,λD _ q=>q⟩;have B:=i.2.1;have A:∀d,d<=m.af.length->LI m (λa=>c5 (a∈S)) t aK (e9 m (λa=>c5 (a∈S)) t d 0 (aK,false)).1:=by
  intro d
  induction d with
  |zero=>intro _;exact y
  |succ d s=>
   intro o;have x:d<m.af.length:=by omega
   have h:=c6 x;rw[yj,m6,h];exact(om i k j h true (om i k j h false (s (by omega))).1).1
 have u:=nV (f:=λe:List Int×Bool×Int=>xS LC m t S e.1 e.2.1 e.2.2) m.af.length (λd=>((e9 m (λa=>c5 (a∈S)) t d 0 (aK,false)).1,(e9 m (λa=>c5 (a∈S)) t d 0 (aK,false)).2,(d:Int))) (e9 m (λa=>c5 (a∈S)) t m.af.length 0 (aK,false)) (λd o=>?_) (by
  dsimp only;unfold xS;rw[aG])
 .rw[show LC.loop (λe:List Int×Bool×Int=>xS LC m t S e.1 e.2.1 e.2.2) (aK,false,0)=_ from u,aa]
 .dsimp only;have h:=c6 o;have n:=A d (by omega);have l:=(om i k j h false n).1;have C:=(om i k j h true l).1;unfold xS;rw[aC,bn,h,aa];have v:=O4 (f:=λz b c=>tY LC m.af[d] m (d:Int) t S z b c) (c:=e9 m (λa=>c5 (a∈S)) t d 0 (aK,false)) (r:=gn m (λa=>c5 (a∈S)) t d m.af[d] true (gn m (λa=>c5 (a∈S)) t d m.af[d] false (e9 m (λa=>c5 (a∈S)) t d 0 (aK,false))))
   (MK i p (n.len.trans j) n.sh h false 0 rfl (by decide)) (MK i p (l.len.trans j) l.sh h true 1 rfl (by decide)) (by unfold tY;rfl)
  rw[show LC.loop (λe:List Int×Bool×Int=>tY LC m.af[d] m (d:Int) t S e.1 e.2.1 e.2.2) _=_ from v,aa,aJ,yj,m6,h]
  rfl
def TT(F:cP m)(u:0<=t){S:Int->Bool}{g:List Int}(k:g.length=m.ai.length)(w:∀e,e∈g->fD e){f:List Int×Bool->Option ((List Int×Bool)⊕List Int)}
 (B:∀aK,aK.length=m.ai.length->(∀e,e∈aK->fD e)->f (aK,true)=c7 (.inl (e9 m S t m.af.length 0 (aK,false)))) (o:∀aK,f (aK,false)=c7 (.inr aK)):Ok (bO f (g,true)) (eF m S t g):=by
 refine oa (λc=>LI m S t g c.1/\(c.2=false->pG (rL m) t (λq=>S q=true) (fn c.1))) (λc=>2*(jJ c.1).toNat+(if c.2 then 1 else 0)) _ (λc a=>?_) _ ⟨⟨rfl,λ_ _ _=>fe _,w,λh _ v=>v⟩,λh=>by cases h⟩
 obtain⟨aK,x⟩:=c;obtain⟨a,z⟩:=a;cases x with
 |false=>exact ok_eq (o aK) ⟨a,z rfl⟩
 |true=>
  refine ok_eq (B aK (a.len.trans k) a.sh) ?_
  obtain⟨l,J,d⟩:=PJ F u k m.af.length 0 (aK,false) a (by omega);have I:=Gn a.sh;have H:=Gn l.sh;rcases d with⟨d,j⟩ |⟨d,j⟩
  .refine⟨⟨l,λh=>by rw[d] at h;cases h⟩,?_⟩
   dsimp only at j⊢;rw[d];simp only[if_true];omega
  .rw[d];refine⟨⟨a,λ_=>?_⟩,by simp⟩
   rintro p q D ⟨i,r,b,E,y,h0,G,s⟩ A C n;exact j i (p7 _) r b E p q D ⟨G,s,y.symm,h0⟩ A C n
def KU(a:cP m)(b:0<=t){g:List Int}(i:g.length=m.ai.length)(k:∀c,c∈g->fD c):Ok (ze LC m g t) (eF m (λ_=>true) t g):=by
 unfold ze;have:=a.1;rw[bV (cX (n:=64) (by omega) (by decide)),aa];refine aD (TT a b i k (f:=λd=>Gt LC m t d.1 d.2) (λaK e h=>?_) (λaK=>rfl)) λl j=>ae j
 unfold Gt;rw[aeq a b e h]
 rfl
def J1(c:cP m)(b:0<=t){g:List Int}(d:g.length=m.ai.length)(e:∀a,a∈g->fD a):Ok (sI LC m g t) (eF m (λ_=>true) t g):=KU c b d e
def akK(b:cP m)(c:0<=t){S g:List Int}(h:Fit S)(j:g.length=m.ai.length)(l:∀a,a∈g->fD a):Ok (Ay LC m g t S) (eF m (λa=>c5 (a∈S)) t g):=by
 unfold Ay;have:=b.1;rw[bV (cX (n:=64) (by omega) (by decide)),aa];refine aD (TT b c j l (f:=λd=>HZ LC m t S d.1 d.2) (λaK e i=>?_) (λaK=>rfl)) λo k=>ae k
 unfold HZ;rw[UZ b c h e i]
 rfl
end
def Fy{b:Bool}{a:Option Bool}{c:Bool}(d:a=c7 c):(bif b then c7 true else a)=c7 (b||c):=by subst d;cases b <;> rfl
def M5{b:Bool}{a:Option Bool}{c:Bool}(d:a=c7 c):(bif (!b) then c7 true else a)=c7 (!b||c):=by subst d;cases b <;> rfl
def Shaped(c:ak)(a:aM):Prop:=a.an.length=c.ai.length/\(0<=a.aa0/\a.aa0<=2147483648)/\∀b,b∈a.an->fD b
instance (a:ak) (b:aM):Decidable (Shaped a b):=by unfold Shaped;infer_instance
def Pk{c:ak}{a:aM}(k:Fit c.ai):ur LC c a=c7 (c5 (Shaped c a)):=by
 unfold ur
 by_cases g:(a.an.length:Int)=(c.ai.length:Int)
 .have n:Fit a.an:=by show a.an.length<=_;have:c.ai.length<=_:=k;omega
  have m:zZ LC a.an=c7 (a.an.any λh=>!c5 (fD h)):=by
   unfold zZ GG;have:=fF (l:=a.an) (P:=λe=>DR LC e) (p:=λh=>!c5 (fD h)) (f:=λd=>GO LC a.an d) n (λe o=>by
    unfold DR;rw[cF,aa]
    by_cases b:e=1099511627776
    .rw[aG (λj=>j b),decide_eq_true (show fD e from .inr b)];rfl
    .rw[aC b]
     congr 2
     apply decide_eq_decide.2
     exact⟨λi=>.inl i,λi=>i.resolve_right b⟩) (λd=>rfl)
   rw[show(LC.loop (λd=>GO LC a.an d) 0).bind _=_ from this,aa,gm]
  rw[aC g,cF,aa,m,aa,ot,fm rfl]
  congr 1
  apply decide_eq_decide.2
  exact⟨λb=>⟨by omega,b⟩,λb=>b.2⟩
 .rw[aG g,decide_eq_false (λb=>g (by have:=b.1;omega))]
def GV{a b:List Int}(l:Fit a):qG LC a b=c7 (c5 (a=b)):=by
 have n:a.length<=4611686018427387904:=l;unfold qG
 by_cases h:(a.length:Int)=(b.length:Int)
 .rw[aG (λe=>e h)];have m:bO (λg=>yU LC a b g) 0=c7 (if ∀i,i<a.length->(λi:Nat=>c5 (a.getD i 0≠b.getD i 0)) i=false then .inr () else .inl ()):=by
   refine oD _ _ () (λi j=>?_) ?_
   .unfold yU;rw[aC,uu j,aa,uu (by omega),aa,aJ]
    by_cases c:a.getD i 0≠b.getD i 0
    .rw[aC c];simp only[decide_eq_true c,cond_true]
    .rw[aG c];simp only[decide_eq_false c,cond_false]
   .unfold yU;rw[aG]
  rw[show LC.loop (λg=>yU LC a b g) 0=_ from m,aa]
  by_cases d:a=b
  .subst d;rw[if_pos (λi j=>decide_eq_false (λe=>e rfl)),decide_eq_true rfl];rfl
  .rw[if_neg (λf=>d ?_),decide_eq_false d];rfl;apply List.ext_getElem (by omega)
   intro i k c;have:=of_decide_eq_false (f i k);rw[eo,pu (c6 k),pu (c6 c)] at this;exact this
 .rw[aC h,decide_eq_false (λf=>h (by rw[f]))]
def uw{c:vG}{a:Int}{g:Int->Int}(e:pG c a (λq=>(λ_:Int=>true) q=true) g):eN c a g:=λp q d f _ b h=>e p q d f rfl b h
def EF{d:vG}{a c:Int}{g:Int->Int}(i:eN d a g)(k:a<=c):eN d c g:=λp q e f b h j=>by
 have:=i p q e f b h (by omega);omega
def jK(b:ak)(a:aM):Prop:=Shaped b a/\eN (rL b) a.aa0 (fn a.an)
def OI(d:ak)(f:aM):Ok (n7 LC d f) λb=>b=true->cP d/\jK d f:=by
 unfold n7;rw[ko,aa];refine aV (λe=>?_) (λ_=>ae λc=>by cases c)
 have:=e.1;rw[Pk (by show d.ai.length<=_;omega),aa];refine aV (λa=>?_) (λ_=>ae λc=>by cases c)
 refine aD (KU e a.2.1.1 a.1 a.2.2) λout g=>?_
 rw[GV (by show out.length<=_;rw[g.len,a.1];omega),aa];refine ae λc=>⟨e,a,?_⟩
 rw[<-of_decide_eq_true c];exact uw g.cl
def aiV{n:Int}(h0:0<=n)(j:n<=1000):vk LC 1 n=c7 (0,n):=by
 have h:∀a:Nat,a<=1000->vk LC 1 (a:Int)=c7 (0,(a:Int)):=by
  intro a i;have d:iN .u64 1 32=c7 0:=by rfl
  have c:iN .u64 (a:Int) 32=c7 0:=by
   rw[AD (by omega),show(2:Int)^ (min (32:Int).toNat hS.bits)=4294967296 from rfl,ih _ (by omega),Int.ediv_eq_zero_of_lt (by omega) (by omega)]
  have f:bits .and .u64 (a:Int) 4294967295=(a:Int):=by
   show hS.wrap ((ma 64 (a:Int) &&& ma 64 ((4294967295:Nat):Int)).toNat:Int)=_
   rw[BitVec.toNat_and,j1,j1,j6,j6,kh (show a<2^64 by omega),show(4294967295:Nat)%2^64=2^32 -1 from rfl,Nat.and_two_pow_sub_one_eq_mod,kh (by omega),mB (by omega) (by omega)]
  have e:bits .and .u64 1 4294967295=1:=by rfl
  have b:iN .u64 0 32=c7 0:=by rfl
  have g:bits .and .u64 0 4294967295=0:=by rfl
  have z:hS.wrap 0=0:=by rfl
  unfold vk;rw[d,aa,c,aa,f,e];simp only[Int.one_mul,Int.mul_zero,q8,mb,Int.mul_one,z];rw[mB (n:=(a:Int)) (by omega) (by omega),c,aa,z,b,aa,g,mb,z,b,aa]
  rfl
 obtain⟨a,rfl⟩:=j7 h0;exact h a (by omega)
def aaT{v:Int}(c:Nat)(x:c<=1000):∀(g:Nat) (a:Nat) (b:List Int),1<=a->c -a<=g->b.length=c->(∀i,i<a->i<c->b[i]?=c7 v)->bO (λn:List Int×Int=>pZ LC n.1 n.2) (b,(a:Int))=c7 (ee c v):=by
 intro g
 induction g with
 |zero=>
  intro a b s o l f;refine fZ ?_
  dsimp only;unfold pZ;rw[aG]
  congr 2
  apply la
  intro i
  by_cases d:i<c
  .rw[f i (by omega) d,hB,if_pos d]
  .rw[hP (by omega),hB,if_neg d]
 |succ g p=>
  intro a b s o l f
  by_cases w:a<c
  .let e:=(b.drop (0:Int).toNat).take ((a:Int).toNat - (0:Int).toNat)
   have j:e=b.take a:=by show(b.drop 0).take (a -0)=_;rw[k0,Nat.sub_zero]
   have q:e.length=a:=by rw[j,ea];omega
   have h:X.mg e (a:Int).toNat ((b.length:Int).toNat - (a:Int).toNat) b=b.take a++((b.take a).take (c -a)++b.drop (a+((b.take a).take (c -a)).length)):=by
    unfold X.mg;rw[j,dk,dk,l]
   rw[iO (a':=(X.mg e (a:Int).toNat ((b.length:Int).toNat - (a:Int).toNat) b,((a+min (c -a) a:Nat):Int)))]
   .refine p (a+min (c -a) a) _ (by omega) (by omega) ?_ (λi d t=>?_)
    .rw[h];simp only[ef,ea,h5];omega
    .rw[h];have k:(b.take a).length=a:=by rw[ea];omega
     have u:((b.take a).take (c -a)).length=min (c -a) a:=by rw[ea,k]
     by_cases m:i<a
     .rw[h6 (by omega),l3,if_pos m];exact f i m t
     .rw[ez (by omega),k,h6 (by omega),l3,if_pos (by omega),l3,if_pos (by omega)];exact f _ (by omega) (by omega)
   .dsimp only;unfold pZ;rw[aC,l8 (by omega) (by omega) (by omega),aa,l8 (by omega) (by omega) (by omega),aa];have r:c3 c4 ((a:Int)+((min ((b.length:Int).toNat - (a:Int).toNat) e.length:Nat):Int))=((a+min (c -a) a:Nat):Int):=by
     rw[q,aJ];omega
    show c7 (m0 (_,c3 c4 ((a:Int)+((min ((b.length:Int).toNat - (a:Int).toNat) e.length:Nat):Int))))=_
    rw[r]
  .refine fZ ?_
   dsimp only;unfold pZ;rw[aG]
   congr 2
   apply la
   intro i
   by_cases d:i<c
   .rw[f i (by omega) d,hB,if_pos d]
   .rw[hP (by omega),hB,if_neg d]
def Oa{v:Int}{n:Nat}(e:n<=1000):EC LC [v] (n:Int)=c7 (ee n v):=by
 unfold EC DJ;have d:hS.wrap (([v].length:Nat):Int)=1:=by simp only[eH,hL];rfl
 rw[aG,d,mB (n:=(n:Int)) (by omega) (by omega),aiV (by omega) (by omega),aa,aa,ew rfl,aa,aG (by dsimp only;omega)];dsimp only;rw[aJ,nS (by omega) (by omega),aa,dk]
 by_cases h0:n=0
 .subst h0;have b:bO (λa:List Int×Int=>pZ LC a.1 a.2) ([],0)=c7 []:=fZ (by dsimp only;unfold pZ;rw[aG (by simp)]);exact(dL (m:=LC.loop (λa:List Int×Int=>pZ LC a.1 a.2) ([],0)) b)
 .have f:X.mg [v] 0 (ee n (0:Int)).length (ee n (0:Int))=v::ee (n -1) 0:=by
   obtain⟨c,rfl⟩:∃c,n=c+1:=⟨n -1,by omega⟩;unfold X.mg;rw[e6];simp[List.replicate_succ]
  rw[f,e6];have g:((min n ([v]:List Int).length:Nat):Int)=((1:Nat):Int):=by simp only[eH,hL];omega
  rw[g];have b:=aaT (v:=v) n e n 1 (v::ee (n -1) 0) (h9 _) (by omega) (by simp only[eH,e6];omega) (λi h _=>by
   have:i=0:=by omega
   subst this;rfl)
  exact dL b
def B6{v:Int}{a:Nat}(b:a<=1000):sJ LC [v] (a:Int)=c7 (ee a v):=Oa b
def QL{a:ak}(b:cP a):yF LC a=c7 (ee a.ai.length 1099511627776):=by
 have:=b.1;unfold yF;rw[B6 (by omega),aa]
def aoN{a:Nat}{v p:Int}(h0:0<=p)(b:p<(a:Int)):fn (ee a v) p=v:=Q4 (by rw[hB,if_pos (by omega)])
def aaW{a:ak}(d:cP a){p t:Int}(b:0<=p/\p<(a.ai.length:Int))(c:0<=t/\t<=2147483648):Ok (Cr LC a p t) λq=>q.2=0/\q.1.aa0=t/\jK a q.1/\fn q.1.an p<=t:=by
 have:=d.1;unfold Cr;rw[ko,aa,de,aC d,aJ,cF,aa,de,aC,cF,aa,de,aC c,QL d,aa];have f:(ee a.ai.length (1099511627776:Int)).length=a.ai.length:=e6;rw[gH b.1 (by omega),aa,iD b.1 (by omega),aa];have i:∀g,g∈(ee a.ai.length (1099511627776:Int)).set p.toNat t->fD g:=λg h=>by
  rcases eE h with h |rfl
  .exact .inr (gx h)
  .exact .inl c
 refine aD (J1 d c.1 (by rw[dT];exact f) i) λout e=>ae ⟨rfl,rfl,⟨⟨?_,c,e.sh⟩,uw e.cl⟩,?_⟩
 .show out.length=_
  rw[e.len,dT];exact f
 .have:=e.le p b.1 (by rw[dT,f];exact b.2);rw[wy b.1 (by omega) b.1,if_pos rfl] at this;exact this
def x4(a:ak)(b:List Int):Prop:=cj 0 ((a.ai.length:Int) -1) b
instance (a:ak) (b:List Int):Decidable (x4 a b):=by unfold x4;infer_instance
def x4.fit{m:ak}(c:cP m){a:List Int}(h:x4 m a):a.length<=64:=by
 have:=cj.len h (by omega);have:=c.1;omega
def ME(c:ak)(g:aM)(f:List Int)(e b:Int)(i:Fit f)(m:Fit c.ai):Ok (vY LC c g f e b) λd=>(d=0\/d=6\/d=8)/\(d=0->cP c/\jK c g/\x4 c f/\(0<=e/\e<=2147483648)/\(0<=b/\b<=2147483648)/\e<=b):=by
 have q:c.ai.length<=4611686018427387904:=m;unfold vY;obtain⟨v,l,o⟩:=OI c g;rw[l,aa,aJ (n:=(c.ai.length:Int) -1),kw _ _ _ i,aa,lA,ew rfl,M5 rfl,aa];refine dy (λa=>ae ⟨.inr (.inl rfl),λa=>by cases a⟩) (λa=>?_)
 rw[j2] at a;have h:=o (by simpa using a.1);have j:=of_decide_eq_false a.2;rw[cF,aa,cF,aa,fh (fh rfl),aa];refine aV (λa=>ae ⟨.inr (.inr rfl),λa=>by cases a⟩) (λp=>ae ⟨.inl rfl,λ_=>⟨h.1,h.2,dv λk=>j (.inr k),?_⟩⟩)
 omega
structure lG (m:ak) (w:aM) (l:List Int) (a b:Int) (x:aM):Prop where
 fN:cP m
 bG:jK m w
 new:jK m x
 time:x.aa0=b
 ab:0<=a/\a<=b/\b<=2147483648
 from_:w.aa0<=a
 cl:eN (rL m) a (fn x.an)
 low:∀p,p∈l->fn w.an p<=b->fn x.an p<=fn w.an p
 NK:∀p,0<=p->p<(m.ai.length:Int)->fn w.an p<=fn x.an p
def afE(f:ak)(a:aM)(l:List Int)(B b:Int)(Y:Fit l)(S:Fit f.ai):Ok (yX LC f a l B b) λq=>(q.2=0/\lG f a l B b q.1)\/(q.2=43/\q.1=a/\a.aa0<=B/\∀p,p∈l->b<fn a.an p)\/((q.2=6\/q.2=8\/q.2=42)/\q.1=a):=by
 unfold yX;refine aD (ME f a l B b Y S) λr Q=>?_
 refine aV (λC=>ae (.inr (.inr ⟨?_,rfl⟩))) (λC=>?_)
 .rcases Q.1 with c |c |c
  .exact absurd c C
  .exact .inl c
  .exact .inr (.inl c)
 obtain⟨D,y,h,R,K,N⟩:=Q.2 (eo.1 C);refine aV (λC=>ae (.inr (.inr ⟨.inr (.inr rfl),rfl⟩))) (λc=>?_)
 rw[QL D,aa];have ai:=y.1.1;have aj:=h.fit D;have V:(ee f.ai.length (1099511627776:Int)).length=f.ai.length:=e6;have af:∀p,0<=p->p<(f.ai.length:Int)->fn a.an p<=1099511627776:=λp h0 c=>by
  have:=y.1.2.2 _ (oR (l:=a.an) h0 (by omega));unfold fD at this;omega
 have F:∀p,p∈l->0<=p/\p<(f.ai.length:Int):=λp ah=>by have:=h.mem ah;omega
 have U:Ok (bO (λe:List Int×Bool×Int=>Ds LC l a b e.1 e.2.1 e.2.2) (ee f.ai.length (1099511627776:Int),false,0)) λn=>
  n.1.length=f.ai.length/\(∀x,x∈n.1->fD x)/\(∀p,0<=p->p<(f.ai.length:Int)->fn a.an p<=fn n.1 p)/\(∀p,p∈l->fn a.an p<=b->fn n.1 p<=fn a.an p/\n.2=true):=by
  refine di l.length (λi e=>e.2.2=(i:Int)/\e.1.length=f.ai.length/\(∀x,x∈e.1->fD x)/\(∀p,0<=p->p<(f.ai.length:Int)->fn a.an p<=fn e.1 p)/\(∀g p,g<i->l[g]?=c7 p->fn a.an p<=b->fn e.1 p<=fn a.an p/\e.2.1=true)) _ (λi e O I=>?_) (λe I=>?_) _ ⟨rfl,V,λx w=>.inr (gx w),λp h0 c=>by rw[aoN h0 c];exact af p h0 c,λg p u=>by omega⟩
  .obtain⟨aK,X,T⟩:=e;obtain⟨rfl,m,o,j,k⟩:=I;dsimp only at m o j k⊢;have A:l[i]?=c7 l[i]:=c6 O;have t:=F _ (dd O);generalize l[i]=p at A t;unfold Ds;rw[aC,bn,A,aa,gH t.1 (by omega),aa,aa,gH (l:=aK) t.1 (by omega),aa,iD (l:=aK) t.1 (by omega),aa];have M:=λq d=>wy (l:=aK) (p:=p) (q:=q) (x:=fn a.an p) t.1 (by omega) d
   by_cases E:fn a.an p<=b
   .rw[aC E,aa,aJ];refine ae ⟨rfl,by rw[dT];exact m,λx w=>?_,λq h0 c=>?_,λg q u d z=>⟨?_,rfl⟩⟩
    .rcases eE w with w |rfl
     .exact o x w
     .exact y.1.2.2 _ (oR (l:=a.an) t.1 (by omega))
    .dsimp only;rw[M q h0]
     split
     .rename_i r;rw[r];exact fe _
     .exact j q h0 c
    .dsimp only;have Z:=F q (fC d);rw[M q Z.1]
     split
     .rename_i r;rw[r];exact fe _
     .rename_i r
      by_cases G:g=i
      .subst G;rw[A] at d;injection d with d
       exact absurd d.symm r
      .exact(k g q (by omega) d z).1
   .rw[aG E,aa,aJ];refine ae ⟨rfl,m,o,j,λg q u d z=>?_⟩
    by_cases G:g=i
    .subst G;rw[A] at d;injection d with d
     subst d;exact absurd z E
    .exact k g q (by omega) d z
  .obtain⟨aK,X,T⟩:=e;obtain⟨rfl,m,o,j,k⟩:=I;dsimp only at m o j k⊢;unfold Ds;rw[aG];refine ae ⟨m,o,j,λp h J=>?_⟩
   obtain⟨g,u,rfl⟩:=e5.1 h;exact k g _ u (c6 u) J
 refine aD U λn ac=>?_
 obtain⟨v,ab,ad,P⟩:=ac;rw[de];refine dy (λH=>?_) (λH=>ae (.inr (.inl ⟨rfl,rfl,by omega,λp h=>?_⟩)))
 .refine aD (J1 D R.1 v ab) λout s=>ae (.inl ⟨rfl,D,y,⟨⟨s.len.trans v,K,s.sh⟩,EF (uw s.cl) N⟩,rfl,⟨R.1,N,K.2⟩,by omega,uw s.cl,λp h J=>?_,λp h0 c=>?_⟩)
  .have L:=F p h;exact qa (s.le p L.1 (by rw[v];exact L.2)) (P p h J).1
  .refine s.low (fn a.an) (λp q ag m _ j k=>?_) (λp h0 c=>ad p h0 (by rw[v] at c;exact c)) p h0 (by rw[v];exact c)
   exact EF y.2 (by omega) p q ag m trivial j k
 .refine Int.not_le.1 λW=>?_
  rw[(P p h W).2] at H;cases H
structure og (m:ak) (w:aM) (l:List Int) (a b blind:Int) (x:aM) (g1:List Int):Prop where
 fN:cP m
 bG:jK m w
 new:jK m x
 time:x.aa0=b
 ab:0<=a/\a<=b/\b<=2147483648
 from_:w.aa0<=b
 bl:0<=blind/\blind<b -max a w.aa0
 off:∀p,0<=p->p<(m.ai.length:Int)->p∉l->fn g1 p<=fn w.an p
 c1:pG (rL m) (b -blind) (λq=>q∈l) (fn g1)
 le:∀p,0<=p->p<(m.ai.length:Int)->fn x.an p<=fn g1 p
 NK:∀p,0<=p->p<(m.ai.length:Int)->fn w.an p<=fn x.an p
def aaS(d:ak)(c:aM)(l:List Int)(z b G:Int)(I:Fit l)(M:Fit d.ai):Ok (wV LC d c l z b G) λq=>(q.2=0/\((∃v,og d c l z b G q.1 v)\/q.1=c))\/((q.2=6\/q.2=8\/q.2=42)/\q.1=c):=by
 unfold wV;refine aD (ME d c l z b I M) λy L=>?_
 refine aV (λF=>ae (.inr ⟨?_,rfl⟩)) (λF=>?_)
 .rcases L.1 with a |a |a
  .exact absurd a F
  .exact .inl a
  .exact .inr (.inl a)
 obtain⟨u,o,A,Z,B,R⟩:=L.2 (eo.1 F);rw[cF,aa,de];refine aV (λP=>?_) (λ_=>ae (.inr ⟨.inr (.inl rfl),rfl⟩))
 refine aV (λ_=>ae (.inr ⟨.inr (.inr rfl),rfl⟩)) (λa=>?_)
 have af:=o.1.2.1;rw[aJ (n:=b -max z c.aa0)];refine aV (λ_=>ae (.inl ⟨rfl,.inr rfl⟩)) (λac=>?_)
 have Q:=o.1.1;have ad:=u.1;have ag:=A.fit u;have S:∀p,p∈l->0<=p/\p<(d.ai.length:Int):=λp ab=>by have:=A.mem ab;omega
 have Y:∀p,0<=p->p<(d.ai.length:Int)->fn c.an p<=1099511627776:=λp h0 a=>by
  have:=o.1.2.2 _ (oR (l:=c.an) h0 (by omega));unfold fD at this;omega
 rw[bV (cX (n:=64) (by omega) (by decide)),aa];have O:Ok (bO (λe:List Int×Int=>CO LC l e.1 e.2) (c.an,0)) λs=>
  s.length=d.ai.length/\(∀x,x∈s->fD x)/\(∀p,0<=p->p<(d.ai.length:Int)->fn c.an p<=fn s p)/\(∀p,0<=p->p<(d.ai.length:Int)->p∉l->fn s p=fn c.an p):=by
  refine di l.length (λi e=>e.2=(i:Int)/\e.1.length=d.ai.length/\(∀x,x∈e.1->fD x)/\(∀p,0<=p->p<(d.ai.length:Int)->fn c.an p<=fn e.1 p)/\(∀p,0<=p->p<(d.ai.length:Int)->p∉l->fn e.1 p=fn c.an p)) _ (λi e D E=>?_) (λe E=>?_) _ ⟨rfl,Q,o.1.2.2,λp h0 a=>fe _,λp _ _ _=>rfl⟩
  .obtain⟨aK,N⟩:=e;obtain⟨rfl,h,m,f,g⟩:=E;dsimp only at h m f g⊢;have K:l[i]?=c7 l[i]:=c6 D;have r:=S _ (dd D);have J:=dd D;generalize l[i]=p at K r J;unfold CO;rw[aC,bn,K,aa,gH (l:=aK) r.1 (by omega),aa,iD (l:=aK) r.1 (by omega),aa,aJ];have H:=λq w=>wy (l:=aK) (p:=p) (q:=q) (x:=1099511627776) r.1 (by omega) w
   refine ae ⟨rfl,by rw[dT];exact h,λx C=>?_,λq h0 a=>?_,λq h0 a w=>?_⟩
   .rcases eE C with C |rfl
    .exact m x C
    .exact .inr rfl
   .dsimp only;rw[H q h0]
    split
    .rename_i y;rw[y];exact Y p r.1 r.2
    .exact f q h0 a
   .dsimp only;rw[H q h0,if_neg (λy=>w (by rw[y];exact J))];exact g q h0 a w
  .obtain⟨aK,N⟩:=e;obtain⟨rfl,h,m,f,g⟩:=E;dsimp only at h m f g⊢;unfold CO;rw[aG];exact ae ⟨h,m,f,g⟩
 refine aD O λs W=>?_
 obtain⟨j,T,V,U⟩:=W;rw[aJ (n:=b -G)];refine aD (akK u (by omega) I j T) λv k=>?_
 refine aD (J1 u B.1 (k.len.trans j) k.sh) λout t=>ae (.inl ⟨rfl,.inl ⟨v,?_⟩⟩)
 have X:∀p,0<=p->p<(d.ai.length:Int)->fn c.an p<=fn v p:=λp h0 a=>
  k.low (fn c.an) (λp q n h _ f g=>EF o.2 (by omega) p q n h trivial f g) (λp h0 a=>V p h0 (by rw[j] at a;exact a)) p h0 (by rw[j];exact a)
 refine⟨u,o,⟨⟨t.len.trans (k.len.trans j),B,t.sh⟩,uw t.cl⟩,rfl,⟨Z.1,R,B.2⟩,by omega,⟨P.1,by omega⟩,λp h0 a A=>?_,λp q n h m f g=>k.cl p q n h (decide_eq_true m) f g,λp h0 a=>t.le p h0 (by rw[k.len,j];exact a),λp h0 a=>?_⟩
 .rw[<-U p h0 a A];exact k.le p h0 (by rw[j];exact a)
 .exact t.low (fn c.an) (λp q n h _ f g=>EF o.2 (by omega) p q n h trivial f g) (λp h0 a=>X p h0 (by rw[k.len,j] at a;exact a)) p h0 (by rw[k.len,j];exact a)
def acF{a:aM}{b:Int}(c:Sm a.an):xc LC a b=c7 (if b<a.aa0\/2147483648<b then(a,8) else(⟨b,a.an⟩,0)):=by
 unfold xc;rw[ew rfl,aa,bV c,aa,wL]
 split <;> rfl
structure mP (m:ak) (w:aM) (t:Int) (x:aM):Prop where
 fN:cP m
 bG:Shaped m w
 new:jK m x
 time:x.aa0=t
 wt:w.aa0<=t/\t<=2147483648
 le:∀p,0<=p->p<(m.ai.length:Int)->fn x.an p<=fn w.an p
 NK:∀h:Int->Int,eN (rL m) t h->(∀p,0<=p->p<(m.ai.length:Int)->h p<=fn w.an p)->∀p,0<=p->p<(m.ai.length:Int)->h p<=fn x.an p
def Pd(d:ak)(f:aM)(e:Int)(i:Fit d.ai):Ok (xT LC d f e) λq=>(q.2=0/\mP d f e q.1)\/((q.2=6\/q.2=8)/\q.1=f):=by
 unfold xT;rw[ko,aa,Pk i,aa,lA,fh rfl,aa];refine aV (λ_=>ae (.inr ⟨.inl rfl,rfl⟩)) (λa=>?_)
 have h:cP d:=dv λg=>a (.inl g)
 have b:Shaped d f:=dv λg=>a (.inr g)
 rw[ew rfl,aa];refine aV (λ_=>ae (.inr ⟨.inr rfl,rfl⟩)) (λs=>?_)
 have t:=b.2.1;refine aD (KU h (by omega) b.1 b.2.2) λout c=>ae (.inl ⟨rfl,h,b,⟨⟨c.len.trans b.1,⟨by show 0<=e;omega,by show e<=_;omega⟩,c.sh⟩,uw c.cl⟩,rfl,⟨by omega,by omega⟩,λp h0 a=>c.le p h0 (by rw[b.1];exact a),λr l m p h0 a=>?_⟩)
 exact c.low r (λp q k o _ j n=>l p q k o trivial j n) (λp h0 a=>m p h0 (by rw[b.1] at a;exact a)) p h0 (by rw[b.1];exact a)
def acr(f:List Int)(b:ak)(c a:Int):IJ LC f b c a=xT LC b ⟨c,f⟩ a:=rfl
def ib(a b:aM):aM:=⟨max a.aa0 b.aa0,ei min a.an b.an⟩
def join_eq{a b:aM}(l:a.an.length=b.an.length)(j:Sm a.an):xW LC a b=c7 (ib a b,0):=by
 have k:a.an.length<=1000000:=j;unfold xW;rw[aG];have h:=nV (f:=λc:Int×List Int×Int=>EG LC a b (aM.mk c.1 c.2.1) c.2.2) a.an.length (λi=>(max a.aa0 b.aa0,(ei min a.an b.an).take i,(i:Int))) (max a.aa0 b.aa0,ei min a.an b.an) (λi d=>?_) (by
  dsimp only;unfold EG;rw[aG,hM (by rw[ga];omega)])
 .refine(dL h).trans ?_
  rfl
 .dsimp only;unfold EG;have g:(ei min a.an b.an)[i]?=c7 (min a.an[i] (b.an[i]'(by omega))):=by
   rw[c6 (by rw[ga];omega),hU]
  rw[aC,bn,c6 d,aa,bn,c6 (by omega),aa,dm (by decide) (by dsimp only;rw[ea,ga];omega),aa,aJ];have e:(ei min a.an b.an).take (i+1)=(ei min a.an b.an).take i++[min a.an[i] (b.an[i]'(by omega))]:=by
   rw[o7,g];rfl
  rw[e]
  rfl
def PL{a b:aM}{p:Int}(f:a.an.length=b.an.length)(h0:0<=p)(d:p<(a.an.length:Int)):fn (ib a b).an p=min (fn a.an p) (fn b.an p):=by
 have c:=iD (l:=a.an) h0 d;have e:=iD (l:=b.an) h0 (by omega);refine Q4 ?_
 show(ei min a.an b.an)[p.toNat]?=_
 rw[List.getElem?_zipWith,c,e]
def jK.join{m:ak}{a b:aM}(c:jK m a)(d:jK m b)(C:cP m):jK m (ib a b):=by
 have h:a.an.length=b.an.length:=c.1.1.trans d.1.1.symm;have F:=c.1.2.1;have G:=d.1.2.1;refine⟨⟨?_,⟨?_,?_⟩,λx w=>?_⟩,λp q n y _ A o=>?_⟩
 .show(ei min a.an b.an).length=_
  rw[ga, <-h,c.1.1];omega
 .show 0<=max a.aa0 b.aa0;omega
 .show max a.aa0 b.aa0<=_;omega
 .obtain⟨i,hi,rfl⟩:=e5.1 (show x∈ei min a.an b.an from w);rw[ga] at hi;rw[hU];have H:=c.1.2.2 _ (dd (show i<a.an.length by omega));have D:=d.1.2.2 _ (dd (show i<b.an.length by omega));unfold fD at*;omega
 .obtain⟨i,r,k,j,t,h0,l,e⟩:=y;obtain⟨u,s⟩:=Cn C j k;rw[<-l] at u;rw[<-e] at s;have I:=c.1.1;rw[PL h u.1 (by omega)] at A o⊢;rw[PL h s.1 (by omega)];have B:(ib a b).aa0=max a.aa0 b.aa0:=rfl;rw[B] at o⊢
  by_cases E:fn a.an p<=fn b.an p
  .have:=c.2 p q n ⟨i,r,k,j,t,h0,l,e⟩ trivial (by omega) (by omega);omega
  .have:=d.2 p q n ⟨i,r,k,j,t,h0,l,e⟩ trivial (by omega) (by omega);omega
def kM(p:Int->Bool)(a:Nat):List Int:=(List.range a).filterMap λ(i:Nat)=>if p (i:Int) then c7 (i:Int) else j4
def SJ{p:Int->Bool}{c:Nat}{a:Int}:a∈kM p c↔0<=a/\a<(c:Int)/\p a=true:=by
 unfold kM;rw[List.mem_filterMap]
 constructor
 .rintro⟨i,d,b⟩;rw[n1] at d
  split at b
  .injection b with b
   subst b;exact⟨by omega,by omega,by assumption⟩
  .cases b
 .rintro⟨g,f,e⟩;refine⟨a.toNat,n1.2 (by omega),?_⟩
  rw[show((a.toNat:Nat):Int)=a by omega,if_pos e]
def pQ{p:Int->Bool}{n:Nat}:(kM p n).length<=n:=by
 unfold kM;exact hD (List.length_filterMap_le _ _) (by rw[List.length_range];exact h9 _)
def afI{p:Int->Bool}{a:Nat}:kM p (a+1)=if p (a:Int) then kM p a++[(a:Int)] else kM p a:=by
 unfold kM;rw[List.range_succ,List.filterMap_append]
 split
 .rename_i b;simp[b]
 .rename_i b;simp[b]
def GY{n:Nat}(k:n<=1000000){P:Int->Option Bool}{p:Int->Bool}{f:List Int×Int->Option ((List Int×Int)⊕List Int)}(h:∀i:Nat,i<n->P (i:Int)=c7 (p (i:Int)))
 (c:∀b a,f (b,a)=bif c5 (a<(n:Int)) then(P a).bind λe=>(bif e then(bj 8 b ([a]:List Int)).bind λg=>c7 g else c7 b).bind λj=>c7 (.inl (j,c3 c4 (a+1))) else c7 (.inr b)):
 bO f ([],0)=c7 (kM p n):=by
 refine nV (f:=f) n (λi=>(kM p i,(i:Int))) (kM p n) (λi d=>?_) (by rw[c,aG])
 rw[c,aC,h i d,aa,afI];have:=pQ (p:=p) (n:=i);rw[dm (by decide) (by omega),aJ];cases l:p (i:Int) with
 |true=>rfl
 |false=>rfl
def dz(a:aM)(b:Int):List Int:=kM (λp=>c5 (fn a.an p<=b)) a.an.length
def Az{a:aM}{c:Int}(d:Sm a.an):su LC a c=c7 (dz a c):=by
 unfold su HL;have e:=GY (n:=a.an.length) d (P:=λb=>Dw LC b a c) (p:=λp=>c5 (fn a.an p<=c)) (f:=λb=>Ge LC (a.an.length:Int) a c b.1 b.2) (λi g=>by
  unfold Dw;rw[gH (by omega) (by omega),aa]) (λh b=>rfl)
 rw[show LC.loop (λb:List Int×Int=>Ge LC (a.an.length:Int) a c b.1 b.2) ([],0)=_ from e,aa,aa]
 rfl
def Sq{b:aM}{c a:Int}:a∈dz b c↔0<=a/\a<(b.an.length:Int)/\fn b.an a<=c:=by
 unfold dz;rw[SJ,decide_eq_true_iff]
def Zn{c b:aM}{a:Int}(j:Sm c.an)(i:Sm b.an):EE LC c b a=c7 (c5 (∃d,d∈dz c a/\d∈dz b a)):=by
 unfold EE;rw[Az i,aa,Az j,aa];have o:Fit (dz b a):=by
  have:(dz b a).length<=b.an.length:=pQ;have:b.an.length<=1000000:=i;show(dz b a).length<=_
  omega
 have n:Fit (dz c a):=by
  have:(dz c a).length<=c.an.length:=pQ;have:c.an.length<=1000000:=j;show(dz c a).length<=_
  omega
 have m:B3 LC (dz c a) (dz b a)=c7 ((dz c a).any λd=>c5 (d∈dz b a)):=by
  unfold B3 Iw;have:=fF (l:=dz c a) (P:=λk=>zO LC k (dz b a)) (p:=λd=>c5 (d∈dz b a)) (f:=λe=>IF LC (dz c a) (dz b a) e) n (λk q=>by
   unfold zO;rw[contains_eq o,aa]) (λe=>rfl)
  rw[show(LC.loop (λe=>IF LC (dz c a) (dz b a) e) 0).bind _=_ from this,aa,gm]
 rw[m,aa]
 congr 1
 rw[mx,m2,decide_eq_true_iff]
 constructor
 .rintro⟨d,g,h⟩;exact⟨d,g,of_decide_eq_true h⟩
 .rintro⟨d,g,h⟩;exact⟨d,g,decide_eq_true h⟩
structure tz (w:ay):Prop where
 tg:Sm w.aw
 wh:Sm w.aH
 fr:∀x,x∈w.aH->Sm x.an
def gF(b:aL):Prop:=Sm b.aA/\∀a,a∈b.aA->tz a
def Tz{a:ay}(e:tz a):oM LC a=c7 a:=by
 unfold oM;rw[bV e.tg,aa];have j:=jm (f:=λd:List Int×List aM×Int=>r9 LC a (ay.mk d.1 d.2.1) d.2.2) a.aH (λb i=>(a.aw,b,i)) (λb=>(a.aw,b)) (λb h k c=>by
  dsimp only;unfold r9;have g:=jW e.wh c;rw[aC (iy c),jg c,aa,bV (e.fr h (ks c)),aa,dm (by decide) g,aa,aJ]) (by
  dsimp only;unfold r9;rw[aG])
 exact dL j
def zK{a:ay}(e:tz a):mH LC a=c7 (a.aH,a.aw):=by
 unfold mH;rw[bV e.tg,aa];have j:=jm (f:=λd:List Int×List aM×Int=>CH LC a (ay.mk d.1 d.2.1) d.2.2) a.aH (λb i=>(a.aw,b,i)) (λb=>(a.aw,b)) (λb h k c=>by
  dsimp only;unfold CH;have g:=jW e.wh c;rw[aC (iy c),jg c,aa,bV (e.fr h (ks c)),aa,dm (by decide) g,aa,aJ]) (by
  dsimp only;unfold CH;rw[aG])
 exact dL j
def Zo{a:ay}(d:tz a):Ac LC a=c7 (a.aw,a.aH):=by
 unfold Ac;rw[bV d.tg,aa];have j:=jm (f:=λe:List aM×Int=>CV LC a (ay.mk a.aw e.1) e.2) a.aH (λb i=>(b,i)) (λb=>b) (λb h k c=>by
  dsimp only;unfold CV;have g:=jW d.wh c;rw[aC (iy c),jg c,aa,bV (d.fr h (ks c)),aa,dm (by decide) g,aa,aJ]) (by
  dsimp only;unfold CV;rw[aG])
 exact dL j
def kG(a b:Int):Int:=if a<b then -1 else if b<a then 1 else 0
def G1(c b:Int):uE LC c b=c7 (kG c b):=by
 unfold uE Cl kG;rw[aa,aa,aG (λa=>a rfl),aG (λa=>a rfl),wL]
 split
 .rfl
 .rw[wL];split <;> rfl
def iH:List Int->List Int->Int
 |[],[]=>0
 |[],_::_=>-1
 |_::_,[]=>1
 |c::d,a::b=>if c<a then -1 else if a<c then 1 else iH d b
def PW{a b:List Int}(o:Sm a):sL LC a b=c7 (iH a b):=by
 have t:a.length<=1000000:=o;unfold sL;have q:∀(e i:Nat),i+e=a.length->i<=b.length->((bO (λr=>ui LC a b r) (i:Int)).bind λp=>Sum.elim (λl=>c7 l) (λs=>bif c5 ((a.length:Int)<(b.length:Int)) then c7 (-1) else c7 0) p)=c7 (iH (a.drop i) (b.drop i)):=by
  intro e
  induction e with
  |zero=>
   intro i k m;rw[fZ (b:=r5 ()) (by unfold ui;rw[aG]),aa,ej,ie (show a.length<=i by omega)]
   by_cases d:(a.length:Int)<(b.length:Int)
   .rw[aC d,gb (show i<b.length by omega)];rfl
   .rw[aG d,ie (show b.length<=i by omega)];rfl
  |succ e n=>
   intro i k m;have f:i<a.length:=by omega
   rw[gb f]
   by_cases d:(b.length:Int)<=(i:Int)
   .rw[fZ (b:=m0 1) (by unfold ui;rw[aC,bn,c6 f,aa,aC d]),aa,ft,ie (show b.length<=i by omega)]
    rfl
   .have j:i<b.length:=by omega
    rw[gb j];unfold iH;have c:ui LC a b (i:Int)=bif c5 (kG a[i] b[i]≠0) then c7 (r5 (m0 (kG a[i] b[i]))) else c7 (m0 ((i:Int)+1)):=by
     unfold ui;rw[aC,bn,c6 f,aa,aG d,bn,c6 j,aa,G1,aa,aJ]
    unfold kG at c
    by_cases h:a[i]<b[i]
    .rw[if_pos h] at c⊢;rw[fZ (b:=m0 (-1)) (by rw[c];rfl)];rfl
    .rw[if_neg h] at c⊢
     by_cases g:b[i]<a[i]
     .rw[if_pos g] at c⊢;rw[fZ (b:=m0 1) (by rw[c];rfl)];rfl
     .rw[if_neg g] at c⊢;rw[iO (a':=((i+1:Nat):Int)) (by rw[c];rfl)];exact n (i+1) (by omega) (by omega)
 have:=q a.length 0 (by omega) (by omega);rw[k0,k0] at this;exact this
def SV:∀a:List Int,iH a a=0
 |[]=>rfl
 |b::a=>by unfold iH;rw[if_neg (by omega),if_neg (by omega)];exact SV a
def NH:∀g b h:List Int,iH g b<0->iH b h<0->iH g h<0
 |[],[],_,c,_=>by simp[iH] at c
 |[],_::_,[],_,c=>by simp[iH] at c
 |[],_::_,_::_,_,_=>by simp[iH]
 |_::_,[],_,c,_=>by simp[iH] at c
 |_::_,_::_,[],_,c=>by simp[iH] at c
 |j::g,d::b,z::h,e,a=>by
  unfold iH at e a⊢
  by_cases l:j<d
  .by_cases f:d<z
   .rw[if_pos (by omega)];decide
   .rw[if_neg f] at a
    by_cases i:z<d
    .rw[if_pos i] at a;omega
    .rw[if_pos (by omega)];decide
  .rw[if_neg l] at e
   by_cases f:d<j
   .rw[if_pos f] at e;omega
   .rw[if_neg f] at e
    by_cases i:d<z
    .rw[if_pos (by omega)];decide
    .rw[if_neg i] at a
     by_cases k:z<d
     .rw[if_pos k] at a;omega
     .rw[if_neg k] at a;rw[if_neg (by omega),if_neg (by omega)];exact NH g b h e a
structure mz (m:ak) (b:aL):Prop where
 fN:cP m
 num:1<=b.aA.length/\b.aA.length<=24
 len:∀w,w∈b.aA->(1<=w.aw.length/\w.aw.length<=12)/\w.aH.length=w.aw.length/\lz w.aw
 perm:∀w w',w∈b.aA->w'∈b.aA->dQ w.aw=dQ w'.aw
 asc:∀i w w',b.aA[i]?=c7 w->b.aA[i+1]?=c7 w'->iH w.aw w'.aw<0
 ok:∀w,w∈b.aA->∀x,x∈w.aH->jK m x
def ah8{m:ak}{l:List aM}(j:Fit l):Ok (E5 LC l m) λb=>b=false->∀a,a∈l->jK m a:=by
 unfold E5 FJ;have i:∀a,∃b,n7 LC m a=c7 b/\(b=true->cP m/\jK m a):=λa=>OI m a
 let p:aM->Bool:=λa=>!(n7 LC m a).getD false
 have:=fF (l:=l) (P:=λc=>Ld LC c m) (p:=p) (f:=λd=>HW LC l m d) j (λc r=>by
  obtain⟨b,e,_⟩:=i c;show((n7 LC m c).bind λq=>c7 (!q))=c7 (!(n7 LC m c).getD false)
  rw[e];rfl) (λd=>rfl)
 rw[show(LC.loop (λd=>HW LC l m d) 0).bind _=_ from this,aa,gm];refine ae λh a n=>?_
 rw[m1] at h;have g:=h a n;obtain⟨b,e,o⟩:=i a;have k:p a= !b:=by show(!(n7 LC m a).getD false)=_;rw[e];rfl
 rw[k] at g;cases b with
 |true=>exact(o rfl).2
 |false=>exact absurd rfl g
def vB(m:ak)(b:aL)(t:gF b):Ok (p8 LC m b) λv=>v=true->mz m b:=by
 unfold p8;rw[ko,aa,cF,aa,lA,fh rfl,aa];refine aV (λ_=>ae λn=>by cases n) (λn=>?_)
 have R:cP m:=dv λj=>n (.inl j)
 have j:1<=(b.aA.length:Int)/\(b.aA.length:Int)<=24:=dv λj=>n (.inr j)
 have h0:b.aA[0]?=c7 (b.aA[0]'(by omega)):=c6 (by omega);have x:=dd (show 0<b.aA.length by omega);generalize b.aA[0]'(by omega)=u at h0 x;have H:aj b.aA 0=c7 u:=by rw[show(0:Int)=((0:Nat):Int) from rfl,bn];exact h0
 rw[H,aa];unfold qK;rw[aa,Iy (t.2 u x).tg,aa];refine aD (Q:=λs=>match s with | .inl _=>True | .inr _=>mz m b) ?_ λs O=>?_
 .refine di b.aA.length (λi w=>w=(i:Int)/\(∀c a,c<i->b.aA[c]?=c7 a->((1<=a.aw.length/\a.aw.length<=12)/\a.aH.length=a.aw.length/\lz a.aw)/\dQ a.aw=dQ u.aw/\(∀A,A∈a.aH->jK m A)/\∀d,0<c->b.aA[c -1]?=c7 d->iH d.aw a.aw<0)) _ (λi w z f=>?_) (λw f=>?_) _ ⟨rfl,λc a h=>by omega⟩
  .obtain⟨rfl,f⟩:=f;have e:b.aA[i]?=c7 b.aA[i]:=c6 z;have C:=dd z;generalize b.aA[i]=a at e C;have q:=t.2 a C;unfold Fm;rw[aC,bn,e,aa,cF,aa,O6 q.tg,aa,lA,ew rfl,fh rfl,aa];refine aV (λ_=>ae trivial) (λo=>?_)
   unfold qK;rw[aa,Iy q.tg,aa,GV (by show(dQ a.aw).length<=_;rw[uP];have:=jZ q.tg;omega),aa,de];refine aV (λp=>?_) (λ_=>ae trivial)
   have I:Ok (bif c5 (0<(i:Int)) then(aj b.aA (c3 c4 ((i:Int) -1))).bind λP=>(sL LC P.aw a.aw).bind λS=>c7 (c5 (0<=S)) else c7 false) λv=>v=false->∀d,0<i->b.aA[i -1]?=c7 d->iH d.aw a.aw<0:=by
    refine aV (λU=>?_) (λU=>ae λ_ d X=>by omega)
    have y:b.aA[i -1]?=c7 (b.aA[i -1]'(by omega)):=c6 (by omega);have B:=dd (show i -1<b.aA.length by omega);generalize b.aA[i -1]'(by omega)=v at y B;rw[aJ,show(i:Int) -1=((i -1:Nat):Int) by omega,bn,y,aa,PW (t.2 v B).tg,aa];refine ae λK d _ g=>?_
    injection g with g
    subst g;have:=of_decide_eq_false K;omega
   refine aD I λW G=>?_
   refine dy (λ_=>ae trivial) (λL=>?_)
   refine aD (ah8 (l:=a.aH) (m:=m) (by show a.aH.length<=_;have:=jZ q.wh;omega)) λV N=>?_
   refine dy (λ_=>ae trivial) (λD=>?_)
   rw[aJ];refine ae ⟨rfl,λc d h g=>?_⟩
   by_cases k:c=i
   .subst k;rw[e] at g;injection g with g
    subst g;refine⟨⟨?_,?_,dv λj=>o (.inr (.inr j))⟩,p,N D,λd M T=>G L d M T⟩
    .have:1<=(a.aw.length:Int)/\(a.aw.length:Int)<=12:=dv λj=>o (.inl j)
     omega
    .have:(a.aH.length:Int)=a.aw.length:=dv λj=>o (.inr (.inl j))
     omega
   .exact f c d (by omega) g
  .obtain⟨rfl,f⟩:=f;unfold Fm;rw[aG];have r:∀a,a∈b.aA->∃c,c<b.aA.length/\b.aA[c]?=c7 a:=λa e=>by
    obtain⟨c,h,rfl⟩:=e5.1 e;exact⟨c,h,c6 h⟩
   refine ae ⟨R,by omega,λa e=>?_,λa d e g=>?_,λi a d o p=>?_,λa e=>?_⟩
   .obtain⟨c,h,k⟩:=r a e;exact(f c a h k).1
   .obtain⟨c,h,k⟩:=r a e;obtain⟨E,F,J⟩:=r d g;exact(f c a h k).2.1.trans (f E d F J).2.1.symm
   .exact(f (i+1) d (dt.1 p).1 p).2.2.2 a (by omega) (by rw[show i+1 -1=i by omega];exact o)
   .obtain⟨c,h,k⟩:=r a e;exact(f c a h k).2.2.1
 .cases s with
  |inl _=>exact ae λn=>by cases n
  |inr _=>exact ae λ_=>O
def mz.lt{m:ak}{b:aL}(h:mz m b):∀{i a:Nat} {d c:ay},i<a->b.aA[i]?=c7 d->b.aA[a]?=c7 c->iH d.aw c.aw<0:=by
 intro i a d c t l k
 induction a generalizing c with
 |zero=>omega
 |succ a o=>
  have n:a<b.aA.length:=by have:=(dt.1 k).1;omega
  have e:=c6 n;have j:=h.asc a _ c e k
  by_cases s:i=a
  .subst s;rw[l] at e;injection e with e
   rw[e];exact j
  .exact NH _ _ _ (o (by omega) e) j
def Fb{e:Type}[DecidableEq e]:∀(a c:List e),a.Nodup->(∀b,b∈a->b∈c)->a.length<=c.length
 |[],c,_,_=>p7 _
 |b::a,c,d,h=>by
  rw[List.nodup_cons] at d;have j:=Fb a (c.erase b) d.2 λi g=>(List.mem_erase_of_ne (λk=>d.1 (by rw[<-k];exact g))).2 (h i (by simp[g]))
  have f:=h b (by simp);rw[List.length_erase_of_mem f] at j;have:=List.length_pos_of_mem f;simp only[eH];omega
def aqu(a g:List Int)(n:a.length<=3)(f:g.Perm a):g∈[[a.getD 0 0,a.getD 1 0,a.getD 2 0].take a.length,[a.getD 0 0,a.getD 2 0,a.getD 1 0].take a.length,[a.getD 1 0,a.getD 0 0,a.getD 2 0].take a.length,[a.getD 1 0,a.getD 2 0,a.getD 0 0].take a.length,[a.getD 2 0,a.getD 0 0,a.getD 1 0].take a.length,[a.getD 2 0,a.getD 1 0,a.getD 0 0].take a.length]:=by
 match a,n with
 |[],_=>rw[f.eq_nil];simp
 |[d],_=>rw[hX.1 f];simp
 |[d,b],_=>
  have i:=f.length_eq
  match g,i with
  |[c,e],_=>
   have j:c=d\/c=b:=by simpa using f.mem_iff.1 (show c∈[c,e] by simp)
   rcases j with rfl |rfl
   .have:=hX.1 (hI f);injection this with this
    subst this;simp
   .have:=hX.1 (hI (f.trans (k6 c d [])));injection this with this
    subst this;simp
 |[d,b,h],_=>
  have i:=f.length_eq
  match g,i with
  |[c,e,z],_=>
   have j:c=d\/c=b\/c=h:=by simpa using f.mem_iff.1 (show c∈[c,e,z] by simp)
   have l:∀p q:Int,[e,z].Perm [p,q]->(e=p/\z=q)\/(e=q/\z=p):=λp q k=>by
    have o:e=p\/e=q:=by simpa using k.mem_iff.1 (show e∈[e,z] by simp)
    rcases o with rfl |rfl
    .have:=hX.1 (hI k);injection this with this
     exact .inl ⟨rfl,this⟩
    .have:=hX.1 (hI (k.trans (k6 e p [])));injection this with this
     exact .inr ⟨rfl,this⟩
   rcases j with rfl |rfl |rfl
   .rcases l b h (hI f) with⟨rfl,rfl⟩ |⟨rfl,rfl⟩ <;> simp
   .rcases l d h (hI (f.trans (k6 c d [h]))) with⟨rfl,rfl⟩ |⟨rfl,rfl⟩ <;> simp
   .have m:[d,b,c].Perm [c,d,b]:=((k6 c b []).cons d).trans (k6 c d [b]);rcases l d b (hI (f.trans m)) with⟨rfl,rfl⟩ |⟨rfl,rfl⟩ <;> simp
def F9{a b:List Int}(c:dQ a=dQ b):a.Perm b:=(uK a).symm.trans (c▸uK b)
def mz.Mp{m:ak}{b:aL}(h:mz m b){a:ay}(h0:a∈b.aA)(j:a.aw.length<=3):b.aA.length<=6:=by
 have e:(b.aA.map (·.aw)).length=b.aA.length:=ev _;rw[<-e];refine hD (Fb _ _ ?_ (λo l=>?_)) (Nat.le_of_eq (?_:r4 [[a.aw.getD 0 0,a.aw.getD 1 0,a.aw.getD 2 0].take a.aw.length,[a.aw.getD 0 0,a.aw.getD 2 0,a.aw.getD 1 0].take a.aw.length,[a.aw.getD 1 0,a.aw.getD 0 0,a.aw.getD 2 0].take a.aw.length,[a.aw.getD 1 0,a.aw.getD 2 0,a.aw.getD 0 0].take a.aw.length,[a.aw.getD 2 0,a.aw.getD 0 0,a.aw.getD 1 0].take a.aw.length,[a.aw.getD 2 0,a.aw.getD 1 0,a.aw.getD 0 0].take a.aw.length]=6))
 .refine h7.2 λi s hi c k he=>?_
  rw[ev] at hi c;rw[oS,oS] at he;have:=h.lt k (c6 hi) (c6 c);rw[he,SV] at this;omega
 .obtain⟨n,d,rfl⟩:=j9.1 l;exact aqu _ _ j (F9 (h.perm n a d h0))
 .rfl
def IH(f:aM->aM->Prop)(e:Int)(a d:ay):Prop:=∃(i:Nat) (c b:aM),a.aw[i]?=c7 e/\a.aH[i]?=c7 c/\f c b/\d=⟨a.aw,a.aH.set i b⟩
structure kz (R:aM->aM->Prop) (C:aM->Prop) (tag:Int) (l l':List ay):Prop where
 len:l'.length<=l.length
 from_:∀w',w'∈l'->∃w,w∈l/\IH R tag w w'
 b9:∀w,w∈l->(∃w',w'∈l'/\IH R tag w w')\/∃(i:Nat) (x:aM),w.aw[i]?=c7 tag/\w.aH[i]?=c7 x/\C x
def kz.more{l:aM->aM->Prop}{C:aM->Prop}{tag:Int}{o m:List ay}(h:kz l C tag o m){k c:ay}(n:IH l tag k c):kz l C tag (o++[k]) (m++[c]):=by
 refine⟨by have:=h.len;simp;omega,λv a=>?_,λv a=>?_⟩
 .rcases e4.1 a with a |a
  .obtain⟨e,d,j⟩:=h.from_ v a;exact⟨e,by simp[d],j⟩
  .rw[e0] at a;subst a;exact⟨k,by simp,n⟩
 .rcases e4.1 a with a |a
  .rcases h.b9 v a with⟨e,d,j⟩ |s
   .exact .inl ⟨e,by simp[d],j⟩
   .exact .inr s
  .rw[e0] at a;subst a;exact .inl ⟨c,by simp,n⟩
def kz.drop{j:aM->aM->Prop}{C:aM->Prop}{tag:Int}{e d:List ay}(h:kz j C tag e d){c:ay}{i:Nat}{x:aM}(o:c.aw[i]?=c7 tag)(n:c.aH[i]?=c7 x)(s:C x):kz j C tag (e++[c]) d:=by
 refine⟨by have:=h.len;simp;omega,λv a=>?_,λv a=>?_⟩
 .obtain⟨l,k,m⟩:=h.from_ v a;exact⟨l,by simp[k],m⟩
 .rcases e4.1 a with a |a
  .exact h.b9 v a
  .rw[e0] at a;subst a;exact .inr ⟨i,x,o,n,s⟩
structure oG (R:aM->aM->Prop) (C:aM->Prop) (m:ak) (tag:Int) (b b':aL):Prop where
 v:mz m b
 ne:b'.aA≠[]
 n:kz R C tag b.aA b'.aA
def OX{b:List Int}{a:Int}(g:a∈b):∃i:Nat,gg (λc=>c5 (a=c)) b=(i:Int)/\b[i]?=c7 a:=by
 have h0:0<=gg (λc=>c5 (a=c)) b:=Aw.2 ⟨a,g,decide_eq_true rfl⟩;obtain⟨i,h,f,e,d,_⟩:=HN h0;refine⟨i,f,?_⟩
 rw[e,of_decide_eq_true d]
def iE{b:Type}{a:List b}{i:Nat}{c:b}(d:a[i]?=c7 c):a.take (i+1)=a.take i++[c]:=by
 rw[o7,d];rfl
def LG(f:ak)(b:aL)(l:Int)(e:List Int)(a g:Int)(A:gF b)(T:Fit e)(I:Fit f.ai):Ok (CS LC f b l e a g) λq=>(q.2=0/\oG (λc d=>d=c\/lG f c e a g d) (λc=>c.aa0<=a/\∀p,p∈e->g<fn c.an p) f l b q.1)\/(q.2≠0/\q.1=b):=by
 unfold CS;refine aD (Q:=λr=>(r.2.2.2.2.2.2=0/\oG (λc d=>d=c\/lG f c e a g d) (λc=>c.aa0<=a/\∀p,p∈e->g<fn c.an p) f l b r.2.2.2.2.2.1)\/(r.2.2.2.2.2.2≠0/\r.2.2.2.2.2.1=b)) ?_ λr af=>ae af
 unfold I3;refine aD (vB f b A) λv M=>?_
 rw[de];refine dy (λN=>?_) (λ_=>ae (.inr ⟨by simp,rfl⟩))
 have t:=M N;have ai:=t.num;have h0:b.aA[0]?=c7 (b.aA[0]'(by omega)):=c6 (by omega);have C:=dd (show 0<b.aA.length by omega);generalize b.aA[0]'(by omega)=w at h0 C;have P:aj b.aA 0=c7 w:=by rw[show(0:Int)=((0:Nat):Int) from rfl,bn];exact h0
 rw[P,aa,contains_eq (by show w.aw.length<=_;have:=jZ (A.2 w C).tg;omega),aa,de];refine aV (λV=>?_) (λ_=>ae (.inr ⟨by simp,rfl⟩))
 refine aD (Q:=λj=>match j with
  | .inl j=>j.2.2.2.2.2.2≠0/\aL.mk j.2.2.2.2.2.1=b
  | .inr j=>kz (λc d=>d=c\/lG f c e a g d) (λc=>c.aa0<=a/\∀p,p∈e->g<fn c.an p) l b.aA j.2.2.2.2.2) ?_ λj H=>?_
 .refine di b.aA.length (λi D=>∃out,D=(f.ai,f.af,e,a,g,out,(i:Int))/\kz (λc d=>d=c\/lG f c e a g d) (λc=>c.aa0<=a/\∀p,p∈e->g<fn c.an p) l (b.aA.take i) out) _ (λi D G B=>?_) (λD B=>?_) _ ⟨[],rfl,⟨by simp,λal n=>(by cases n),λh n=>(by simp at n)⟩⟩
  .obtain⟨out,rfl,s⟩:=B;have u:b.aA[i]?=c7 b.aA[i]:=c6 G;have y:=dd G;generalize b.aA[i]=h at u y;have R:=A.2 h y;have ah:=t.len h y;have ab:l∈h.aw:=(F9 (t.perm h w y C)).mem_iff.2 V;obtain⟨m,K,z⟩:=OX ab;have ad:m<h.aH.length:=by have:=(dt.1 z).1;omega
   have o:h.aH[m]?=c7 h.aH[m]:=c6 ad;generalize h.aH[m]=c at o;have ag:out.length<=24:=by have:=s.len;rw[ea] at this;omega
   dsimp only;unfold Gz;rw[aC,bn,u,aa,Bb (by show h.aw.length<=_;omega),K,aa,zK R,aa];dsimp only;rw[bn,o,aa,dk,o,aa];unfold JT;obtain⟨q,S,J⟩:=afE f c e a g T I;have Z:yX LC (ak.mk f.ai f.af) c e a g=c7 q:=S;rw[Z,aa,aa];dsimp only;simp only[aa];have fin:∀d,(d=c\/lG f c e a g d)->kz (λc d=>d=c\/lG f c e a g d) (λc=>c.aa0<=a/\∀p,p∈e->g<fn c.an p) l (b.aA.take (i+1)) (out++[ay.mk h.aw (h.aH.set m d)]):=λd X=>by
    rw[iE u];exact s.more ⟨m,c,d,z,o,X,rfl⟩
   have F:∀x,x=h.aH.set m q.1\/x=h.aH.set m c->(q.1=c\/lG f c e a g q.1)->kz (λc d=>d=c\/lG f c e a g d) (λc=>c.aa0<=a/\∀p,p∈e->g<fn c.an p) l (b.aA.take (i+1)) (out++[ay.mk h.aw x]):=λx Y L=>by
    rcases Y with rfl |rfl
    .exact fin _ L
    .exact fin _ (.inl rfl)
   rcases J with⟨k,U⟩ |⟨k,E,W,O⟩ |⟨k,E⟩
   .rw[k];simp only[aa,decide_eq_true,decide_eq_false,Int.reduceEq,decide_false,decide_true,cond_true,cond_false,ft,ej];rw[dm (by decide) (by omega),aa,aJ];exact ae ⟨_,rfl,F _ (.inl rfl) (.inr U)⟩
   .rw[k];simp only[aa,Int.reduceEq,decide_false,decide_true,cond_true,cond_false,ft,ej];rw[aJ];refine ae ⟨_,rfl,?_⟩
    rw[iE u];exact s.drop z o ⟨W,O⟩
   .rcases k with k |k |k
    .rw[k];simp only[aa,Int.reduceEq,decide_false,decide_true,cond_true,cond_false,ft,ej];exact ae ⟨by simp,rfl⟩
    .rw[k];simp only[aa,Int.reduceEq,decide_false,decide_true,cond_true,cond_false,ft,ej];exact ae ⟨by simp,rfl⟩
    .rw[k];simp only[aa,Int.reduceEq,decide_false,decide_true,cond_true,cond_false,ft,ej];rw[dm (by decide) (by omega),aa,aJ];exact ae ⟨_,rfl,F _ (.inr (ou o).symm) (.inl E)⟩
  .obtain⟨out,rfl,s⟩:=B;dsimp only;unfold Gz;rw[aG];rw[gy] at s;exact ae s
 .cases j with
  |inl j=>exact ae (.inr H)
  |inr j=>
   dsimp only[ej];refine aV (λ_=>ae (.inr ⟨by simp,rfl⟩)) (λac=>ae (.inl ⟨rfl,t,λn=>ac ?_,H⟩))
   have n:j.2.2.2.2.2=[]:=n;rw[n];rfl
def Sj(e:ak)(b:aL)(n:Int)(g:List Int)(a k l:Int)(y:gF b)(O:Fit g)(G:Fit e.ai):Ok (Bq LC e b n g a k l) λq=>(q.2=0/\oG (λc d=>d=c\/∃j,og e c g a k l d j) (λ_=>False) e n b q.1)\/(q.2≠0/\q.1=b):=by
 unfold Bq;refine aD (Q:=λr=>(r.2.2.2.2.2.2.2=0/\oG (λc d=>d=c\/∃j,og e c g a k l d j) (λ_=>False) e n b r.2.2.2.2.2.2.1)\/(r.2.2.2.2.2.2.2≠0/\r.2.2.2.2.2.2.1=b)) ?_ λr X=>ae X
 unfold Hu;refine aD (vB e b y) λv J=>?_
 rw[de];refine dy (λK=>?_) (λ_=>ae (.inr ⟨by simp,rfl⟩))
 have u:=J K;have ac:=u.num;have h0:b.aA[0]?=c7 (b.aA[0]'(by omega)):=c6 (by omega);have B:=dd (show 0<b.aA.length by omega);generalize b.aA[0]'(by omega)=w at h0 B;have L:aj b.aA 0=c7 w:=by rw[show(0:Int)=((0:Nat):Int) from rfl,bn];exact h0
 rw[L,aa,contains_eq (by show w.aw.length<=_;have:=jZ (y.2 w B).tg;omega),aa,de];refine aV (λR=>?_) (λ_=>ae (.inr ⟨by simp,rfl⟩))
 refine aD (Q:=λh=>match h with
  | .inl h=>h.2.2.2.2.2.2.2≠0/\aL.mk h.2.2.2.2.2.2.1=b
  | .inr h=>kz (λc d=>d=c\/∃j,og e c g a k l d j) (λ_=>False) n b.aA h.2.2.2.2.2.2) ?_ λh F=>?_
 .refine di b.aA.length (λi C=>∃out,C=(e.ai,e.af,g,a,k,l,out,(i:Int))/\kz (λc d=>d=c\/∃j,og e c g a k l d j) (λ_=>False) n (b.aA.take i) out) _ (λi C E A=>?_) (λC A=>?_) _ ⟨[],rfl,⟨by simp,λad o=>(by cases o),λf o=>(by simp at o)⟩⟩
  .obtain⟨out,rfl,t⟩:=A;have z:b.aA[i]?=c7 b.aA[i]:=c6 E;have x:=dd E;generalize b.aA[i]=f at z x;have M:=y.2 f x;have ab:=u.len f x;have U:n∈f.aw:=(F9 (u.perm f w x B)).mem_iff.2 R;obtain⟨p,I,D⟩:=OX U;have W:p<f.aH.length:=by have:=(dt.1 D).1;omega
   have s:f.aH[p]?=c7 f.aH[p]:=c6 W;generalize f.aH[p]=c at s;have Y:out.length<=24:=by have:=t.len;rw[ea] at this;omega
   dsimp only;unfold Fl;rw[aC,bn,z,aa,Bb (by show f.aw.length<=_;omega),I,aa,zK M,aa];dsimp only;rw[bn,s,aa,dk,s,aa];unfold Io;obtain⟨q,N,H⟩:=aaS e c g a k l O G;have T:wV LC (ak.mk e.ai e.af) c g a k l=c7 q:=N;rw[T,aa,aa];dsimp only;simp only[aa];have fin:∀d,(d=c\/∃j,og e c g a k l d j)->kz (λc d=>d=c\/∃j,og e c g a k l d j) (λ_=>False) n (b.aA.take (i+1)) (out++[ay.mk f.aw (f.aH.set p d)]):=λd S=>by
    rw[iE z];exact t.more ⟨p,c,d,D,s,S,rfl⟩
   rcases H with⟨m,P⟩ |⟨m,Z⟩
   .rw[m];simp only[aa,Int.reduceEq,decide_false,decide_true,cond_true,cond_false,ft,ej];rw[dm (by decide) (by omega),aa,aJ];exact ae ⟨_,rfl,fin _ (P.elim .inr .inl)⟩
   .rcases m with m |m |m
    .rw[m];simp only[aa,Int.reduceEq,decide_false,decide_true,cond_true,cond_false,ft,ej];exact ae ⟨by simp,rfl⟩
    .rw[m];simp only[aa,Int.reduceEq,decide_false,decide_true,cond_true,cond_false,ft,ej];exact ae ⟨by simp,rfl⟩
    .rw[m];simp only[aa,Int.reduceEq,decide_false,decide_true,cond_true,cond_false,ft,ej];rw[dm (by decide) (by omega),aa,aJ];refine ae ⟨_,rfl,?_⟩
     have:=fin c (.inl rfl);rw[ou s] at this;exact this
  .obtain⟨out,rfl,t⟩:=A;dsimp only;unfold Fl;rw[aG];rw[gy] at t;exact ae t
 .cases h with
  |inl h=>exact ae (.inr F)
  |inr h=>
   dsimp only[ej];refine aV (λ_=>ae (.inr ⟨by simp,rfl⟩)) (λV=>ae (.inl ⟨rfl,u,λo=>V ?_,F⟩))
   have o:h.2.2.2.2.2.2=[]:=o;rw[o];rfl
def swap_perm{b:Type}{a:List b}{i e:Nat}{d c:b}(f:a[i]?=c7 d)(g:a[e]?=c7 c):((a.set i c).set e d).Perm a:=by
 obtain⟨j,rfl⟩:=dt.1 f;obtain⟨h,rfl⟩:=dt.1 g;exact List.set_set_perm j h
def aaP(d:List ay)(w:∀o,o∈d->Sm o.aw)(B:d.length<=19):Ok (xn LC d 0 (d.length:Int)) λr=>r.Perm d:=by
 unfold xn;rw[aJ];refine aD (Q:=λr=>r.Perm d) ?_ λr k=>ae k
 refine oa (λb:List ay×Int=>b.1.Perm d/\1<=b.2) (λb=>(20 -b.2).toNat) _ (λb j=>?_) _ ⟨.refl _,by simp⟩
 obtain⟨aK,i⟩:=b;obtain⟨e,x⟩:=j;dsimp only at e x⊢;unfold Sx;refine aV (λA=>?_) (λ_=>ae e)
 refine aD (Q:=λr=>r.Perm d) ?_ λr k=>?_
 .refine oa (λb:List ay×Int=>b.1.Perm d/\0<=b.2/\b.2<(d.length:Int)) (λb=>b.2.toNat) _ (λb j=>?_) _ ⟨e,by show(0:Int)<=i;omega,A⟩
  obtain⟨c,a⟩:=b;obtain⟨e,t,q⟩:=j;dsimp only at e t q⊢;have C:=e.length_eq;unfold Mg
  by_cases l:0<a
  rotate_left
  .rw[aG l];exact ae e
  have f:c[a.toNat]?=c7 (c[a.toNat]'(by omega)):=c6 (by omega);have g:c[(a -1).toNat]?=c7 (c[(a -1).toNat]'(by omega)):=c6 (by omega);have p:=dd (show a.toNat<c.length by omega);generalize c[a.toNat]'(by omega)=m at f p;generalize c[(a -1).toNat]'(by omega)=h at g;have u:aj c a=c7 m:=by unfold aj;rw[if_pos (by omega)];exact f
  have z:aj c (a -1)=c7 h:=by unfold aj;rw[if_pos (by omega)];exact g
  have s:=w m (e.mem_iff.1 p);rw[aC l,aJ (n:=a -1),u,aa,f,aa,z,aa,g,aa];unfold IK;rw[PW s];simp only[aa];refine aV (λ_=>?_) (λ_=>ae e)
  have y:(a -1).toNat<(c.set a.toNat h).length:=by rw[dT];omega
  have v:aj (c.set a.toNat h) (a -1)=c7 ((c.set a.toNat h)[(a -1).toNat]):=qC (by omega) (by rw[dT];omega);rw[v,aa,c6 y,aa];refine ae ⟨⟨(swap_perm f g).trans e,by show 0<=a -1;omega,by show a -1<_;omega⟩,?_⟩
  show(a -1).toNat<a.toNat
  omega
 .rw[aJ];refine ae ⟨⟨k,by show 1<=i+1;omega⟩,?_⟩
  show(20 - (i+1)).toNat<(20 -i).toNat
  omega
def aoi(a:List ay)(h:∀d,d∈a->Sm d.aw)(c:a.length<=19):Ok (uv LC a) λr=>r.Perm a:=by
 unfold uv FQ JY GP Je;rw[pr (by decide) (cX (n:=19) c (by decide)),aa,aa];have f:bO (λb:List ay×Int×Int=>zB LC (a.length:Int) b.1 b.2.1 b.2.2) (a,0,20)=c7 (a,0):=fZ (by dsimp only;unfold zB;rw[aG]);rw[show LC.loop (λb:List ay×Int×Int=>zB LC (a.length:Int) b.1 b.2.1 b.2.2) (a,0,20)=_ from f,aa];dsimp only;obtain⟨r,e,i⟩:=aaP a h c;rw[e,aa];have g:bO (λb:Int=>KH LC (a.length:Int) b) 20=c7 ():=fZ (by unfold KH;rw[aG]);rw[g];simp only[aa];exact ae i
def j0(c d:Nat)(b:ay):Prop:=b.aH.length=c/\∀a,a∈b.aH->a.an.length=d
def Over(e:Nat)(d c:ay):Prop:=c.aw=d.aw/\∀(i:Nat) b a,d.aH[i]?=c7 b->c.aH[i]?=c7 a->b.aa0<=a.aa0/\∀p,0<=p->p<(e:Int)->fn a.an p<=fn b.an p
def Over.refl(np:Nat)(c:ay):Over np c c:=⟨rfl,λi x d h a=>by rw[h] at a;injection a with a;subst a;exact⟨fe _,λ_ _ _=>fe _⟩⟩
structure rZ (n np:Nat) (l out:List ay):Prop where
 a:∀w,w∈l->∃w',w'∈out/\Over np w w'
 b:∀Pr:aM->Prop,(∀x y,x.an.length=np->y.an.length=np->Pr x->Pr y->Pr (ib x y))->(∀w,w∈l->∀x,x∈w.aH->Pr x)->∀w',w'∈out->∀x,x∈w'.aH->Pr x
 c:∀w',w'∈out->j0 n np w'/\∃w,w∈l/\w'.aw=w.aw
 d:out.length<=l.length
 e:l≠[]->out≠[]
def oB(a b:ay):ay:=⟨a.aw,ei ib a.aH b.aH⟩
def acE{c b:aM}{a:Nat}(e:c.an.length=a)(d:b.an.length=a):(ib c b).an.length=a:=by
 show(ei min c.an b.an).length=a
 rw[ga];omega
def ake{a d:Nat}{c b:ay}(f:j0 a d c)(e:j0 a d b):j0 a d (oB c b):=by
 refine⟨by show(ei ib c.aH b.aH).length=a;rw[ga,f.1,e.1];omega,λh j=>?_⟩
 obtain⟨i,g,rfl⟩:=e5.1 (show h∈ei ib c.aH b.aH from j);rw[ga] at g;rw[hU];exact acE (f.2 _ (dd (by omega))) (e.2 _ (dd (by omega)))
def FB{c b:ay}{i:Nat}{a:aM}(d:(oB c b).aH[i]?=c7 a):∃f e,c.aH[i]?=c7 f/\b.aH[i]?=c7 e/\a=ib f e:=by
 have d:(ei ib c.aH b.aH)[i]?=c7 a:=d;obtain⟨h,g⟩:=dt.1 d;rw[ga] at h;rw[hU] at g;exact⟨_,_,c6 (by omega),c6 (by omega),g.symm⟩
def amz{s c:Nat}{u b e:ay}(n:j0 s c b)(m:j0 s c e)(v:b.aw=e.aw):(Over c u b->Over c u (oB b e))/\Over c e (oB b e):=by
 refine⟨λo=>⟨o.1,λi d w g k=>?_⟩,⟨v,λi d w g k=>?_⟩⟩
 .obtain⟨p,q,f,a,rfl⟩:=FB k;obtain⟨x,t⟩:=o.2 i d p g f;have h:=n.2 p (fC f);have j:=m.2 q (fC a);refine⟨by show d.aa0<=max p.aa0 q.aa0;omega,λr h0 l=>?_⟩
  rw[PL (h.trans j.symm) h0 (by omega)];have:=t r h0 l;omega
 .obtain⟨p,q,f,a,rfl⟩:=FB k;have h:=n.2 p (fC f);have j:=m.2 q (fC a);rw[g] at a;injection a with a
  subst a;refine⟨by show d.aa0<=max p.aa0 d.aa0;omega,λr h0 l=>?_⟩
  rw[PL (h.trans j.symm) h0 (by omega)];omega
def agQ{n e:Nat}{a b:ay}(v:n<=100)(p:e<=1000000)(g:j0 n e a)(c:j0 n e b):bO (λd:List aM×Int=>qR LC b.aH d.1 d.2) (a.aH,0)=c7 (ei ib a.aH b.aH):=by
 have u:(ei ib a.aH b.aH).length=n:=by rw[ga,g.1,c.1];omega
 have r:=nV (f:=λd:List aM×Int=>qR LC b.aH d.1 d.2) n (λi=>((ei ib a.aH b.aH).take i++a.aH.drop i,(i:Int))) (ei ib a.aH b.aH) (λi k=>?_) (by
  dsimp only;unfold qR;rw[aG (by rw[c.1];omega),hM (by omega),ie (by rw[g.1];omega),my])
 .simpa using r
 .dsimp only;unfold qR;have h:i<a.aH.length:=by rw[g.1];exact k
  have l:i<b.aH.length:=by rw[c.1];exact k
  have j:((ei ib a.aH b.aH).take i).length=i:=by rw[ea,u];omega
  have m:((ei ib a.aH b.aH).take i++a.aH.drop i)[i]?=c7 a.aH[i]:=by
   rw[ez (by omega),j,j8,gb h];rfl
  have q:=g.2 _ (dd h);have t:=c.2 _ (dd l);rw[aC (by rw[c.1];omega),bn,m,aa,bn,c6 l,aa,join_eq (q.trans t.symm) (cX (n:=e) (by omega) p),aa,aJ];have o:(ei ib a.aH b.aH)[i]?=c7 (ib a.aH[i] b.aH[i]):=by
   rw[c6 (by omega),hU]
  have s:((ei ib a.aH b.aH).take i++a.aH.drop i).set (i:Int).toNat (ib a.aH[i] b.aH[i])=(ei ib a.aH b.aH).take (i+1)++a.aH.drop (i+1):=by
   rw[dk,k8 _ _ (by omega),j,j8,gb h,hY,iE o,h8]
   rfl
  dsimp only;rw[s]
  rfl
def QQ{n np:Nat}(P:n<=100)(M:np<=1000000)(y:List ay)(a:∀c,c∈y->j0 n np c/\Sm c.aw)(Z:y.length<=19):Ok (yK LC y) (rZ n np y):=by
 unfold yK;refine aD (aoi y (λc g=>(a c g).2) Z) λm s=>?_
 have an:=s.length_eq;have X:∀c,c∈m->j0 n np c/\Sm c.aw:=λc g=>a c (s.mem_iff.1 g)
 have ak:∀c,j0 n np c->Sm c.aw->tz c:=λc e F=>⟨F,cX (n:=100) (by rw[e.1];exact P) (by decide),λx r=>cX (n:=np) (by rw[e.2 x r];omega) M⟩
 refine WI (Q:=rZ n np m) ?_ λout e=>⟨λc g=>e.a c (s.mem_iff.2 g),λt o l=>e.b t o λc g=>l c (s.mem_iff.1 g),λJ A=>?_,by have:=e.d;omega,λah=>e.e λac=>ah ?_⟩
 rotate_left
 .obtain⟨o,c,l,T⟩:=e.c J A;exact⟨o,c,s.mem_iff.1 l,T⟩
 .rw[ac] at s;exact List.nil_perm.1 s
 refine di m.length (λi I=>∃out,I=(out,(i:Int))/\rZ n np (m.take i) out/\∀c,c∈out->Sm c.aw) _ (λi I N H=>?_) (λI H=>?_) _ ⟨[],rfl,⟨λc g=>(by simp at g),λ_ _ _ J A=>(by cases A),λJ A=>(by cases A),by simp,λe=>(by simp at e)⟩,λc g=>(by cases g)⟩
 .obtain⟨out,rfl,h,B⟩:=H;have g:m[i]?=c7 m[i]:=c6 N;have S:=dd N;generalize m[i]=c at g S;obtain⟨w,O⟩:=X c S;have al:out.length<=19:=by have:=h.d;rw[ea] at this;omega
  dsimp only;unfold lZ;rw[aC,bn,g,aa,iE g,aJ (n:=(i:Int)+1)];have new:Ok ((oM LC c).bind λad=>(bj 48 out [ad]).bind λout=>c7 (m0 (out,(i:Int)+1))) λd:(List ay×Int)⊕List ay=>match d with
   | .inl V=>∃out,V=(out,((i+1:Nat):Int))/\rZ n np (m.take i++[c]) out/\∀c,c∈out->Sm c.aw
   | .inr b=>rZ n np m b:=by
   rw[Tz (ak c w O),aa,dm (by decide) (by omega),aa];refine ae ⟨_,rfl,⟨λu a=>?_,λt o l u a x r=>?_,λu a=>?_,?_,λ_=>by simp⟩,λu a=>?_⟩
   .rcases e4.1 a with a |a
    .obtain⟨v,f,j⟩:=h.a u a;exact⟨v,by simp[f],j⟩
    .rw[e0] at a;subst a;exact⟨u,by simp,Over.refl _ _⟩
   .rcases e4.1 a with a |a
    .exact h.b t o (λv z=>l v (by simp[z])) u a x r
    .rw[e0] at a;subst a;exact l u (by simp) x r
   .rcases e4.1 a with a |a
    .obtain⟨v,f,j,G⟩:=h.c u a;exact⟨v,f,by simp[j],G⟩
    .rw[e0] at a;subst a;exact⟨w,u,by simp,rfl⟩
   .have:=h.d;simp only[ef,eH,hL] at this⊢;omega
   .rcases e4.1 a with a |a
    .exact B u a
    .rw[e0] at a;subst a;exact O
  rcases List.eq_nil_or_concat out with af |⟨init,d,k⟩
  .subst af;rw[aG (by simp),aa];exact WI new λd k=>by cases d <;> exact k
  .rw[List.concat_eq_append] at k;have R:out.length=init.length+1:=by rw[k];simp
   have U:aj out (c3 c4 ((out.length:Int) -1))=c7 d:=by
    rw[aJ,R,show((init.length+1:Nat):Int) -1=(init.length:Int) by omega];exact jg (rest:=[]) k
   have C:d∈out:=by rw[k];simp
   obtain⟨D,Y,ai,ab⟩:=h.c d C;rw[aC,U,aa,GV (by show d.aw.length<=_;have:=jZ (B d C);omega),aa];refine aV (λF=>?_) (λ_=>WI new λd k=>by cases d <;> exact k)
   rw[aa];refine c8 (agQ P M D w) ?_
   have W:out.set (c3 c4 ((out.length:Int) -1)).toNat ({d with aH:=ei ib d.aH c.aH}:ay)=init++[oB d c]:=by
    rw[aJ,R,show(((init.length+1:Nat):Int) -1).toNat=init.length by omega,k,k8 _ _ (h9 _),j8]
    rfl
   rw[W];have L:=λu=>amz (u:=u) D w F
   have E:∀{u:ay},u∈init++[oB d c]->u∈init\/u=oB d c:=λe=>by
    rcases e4.1 e with e |e
    .exact .inl e
    .exact .inr (by simpa using e)
   have K:∀u,u∈init->u∈out:=λu e=>by rw[k];simp[e]
   refine ae ⟨_,rfl,⟨λu a=>?_,λt o l u a x r=>?_,λu a=>?_,?_,λ_=>by simp⟩,λu a=>?_⟩
   .rcases e4.1 a with a |a
    .obtain⟨v,f,j⟩:=h.a u a;rw[k] at f;rcases e4.1 f with f |f
     .exact⟨v,by simp[f],j⟩
     .rw[e0] at f;subst f;exact⟨oB v c,by simp,(L u).1 j⟩
    .rw[e0] at a;subst a;exact⟨oB d u,by simp,(L u).2⟩
   .rcases E a with a |rfl
    .exact h.b t o (λv z=>l v (by simp[z])) u (K u a) x r
    .obtain⟨am,ag⟩:=hQ.1 r;obtain⟨p,q,f,j,rfl⟩:=FB ag;exact o p q (D.2 p (fC f)) (w.2 q (fC j)) (h.b t o (λv z=>l v (by simp[z])) d C p (fC f)) (l c (by simp) q (fC j))
   .rcases E a with a |rfl
    .obtain⟨v,f,j,G⟩:=h.c u (K u a);exact⟨v,f,by simp[j],G⟩
    .exact⟨ake D w,Y,by simp[ai],ab⟩
   .have:=h.d;simp only[ef,eH,hL] at this⊢;omega
   .rcases E a with a |rfl
    .exact B u (K u a)
    .exact B d C
 .obtain⟨out,rfl,h,B⟩:=H;dsimp only;unfold lZ;rw[aG];rw[gy] at h;exact ae h
def kH(i b:Int)(a:List aM):List aM:=match a[i.toNat]? with |some c=>if b<c.aa0\/2147483648<b then a else a.set i.toNat ⟨b,c.an⟩ |none=>a
def rU(i b a:Int)(c:ay):ay:=⟨gL i b c.aw,kH b a (kH i a c.aH)⟩
def ID{i b:Int}{a:List aM}:(kH i b a).length=a.length:=by
 unfold kH
 split
 .split
  .rfl
  .rw[dT]
 .rfl
def F3{i d:Int}{g:List aM}{h:Nat}{b:aM}(a:(kH i d g)[h]?=c7 b):∃f,g[h]?=c7 f/\b.an=f.an/\f.aa0<=b.aa0/\(b.aa0=f.aa0\/b.aa0=d)/\((h:Int)=i->d<=2147483648->d<=b.aa0):=by
 unfold kH at a;cases c:g[i.toNat]? with
 |none=>
  rw[c] at a;refine⟨b,a,rfl,fe _,.inl rfl,λe=>?_⟩
  subst e;rw[dk] at c;rw[c] at a;cases a
 |some k=>
  rw[c] at a;dsimp only at a
  split at a
  .rename_i l;refine⟨b,a,rfl,fe _,.inl rfl,λe m=>?_⟩
   subst e;rw[dk] at c;rw[c] at a;injection a with a
   subst a;omega
  .rename_i l;rw[hK] at a
   split at a
   .rename_i j
    split at a
    .injection a with a
     subst a;refine⟨k,by rw[<-j];exact c,rfl,by show k.aa0<=d;omega,.inr rfl,λ_ _=>fe _⟩
    .cases a
   .rename_i j;exact⟨b,a,rfl,fe _,.inl rfl,λe=>absurd (by omega) j⟩
def NG{i c:Int}{a:List aM}(k:0<=i/\i<(a.length:Int))(m:∀b,b∈a->Sm b.an){l:Type}{h:List aM->Option l}:((aj a i).bind λ_=>(a[i.toNat]?).bind λn=>(xc LC n c).bind λj=>
 (bif c5 (j.2=0) then(aj a i).bind λ_=>(a[i.toNat]?).bind λ_=>c7 (a.set i.toNat j.1) else c7 a).bind h)=h (kH i c a):=by
 have e:a[i.toNat]?=c7 (a[i.toNat]'(by omega)):=c6 (by omega);have f:=dd (show i.toNat<a.length by omega);unfold kH;generalize a[i.toNat]'(by omega)=b at e f;have g:aj a i=c7 b:=by unfold aj;rw[if_pos k.1];exact e
 rw[g,e];simp only[aa];rw[acF (m b f),aa]
 by_cases d:c<b.aa0\/2147483648<c
 .rw[if_pos d,if_pos d];rfl
 .rw[if_neg d,if_neg d];rfl
structure AY (m:ak) (i j t:Int) (n np:Nat) (b b':aL):Prop where
 v:mz m b
 num:b'.aA.length<=24
 ix:(0<=i/\i<(n:Int))/\(0<=j/\j<(n:Int))/\i≠j/\0<=t/\t<=2147483648
 ex:∃l,rZ n np l b'.aA/\l≠[]/\(∀w,w∈b.aA->w∈l)/\(∀w x y,w∈b.aA->w.aH[i.toNat]?=c7 x->w.aH[j.toNat]?=c7 y->(∃p,p∈dz x t/\p∈dz y t)->rU i j t w∈l)/\∀u,u∈l->u∈b.aA\/∃w,w∈b.aA/\u=rU i j t w
def RM(V:ak)(b:aL)(i c h:Int){n np:Nat}(aY:n<=3)(a1:np<=64)(B:gF b)(I:∀a,a∈b.aA->j0 n np a/\a.aw.length=n):Ok (yY LC V b i c h) λq=>(q.2=0/\AY V i c h n np b q.1)\/(q.2≠0/\q.1=b):=by
 unfold yY;refine aD (vB V b B) λv ay=>?_
 rw[de];refine dy (λan=>?_) (λ_=>ae (.inr ⟨by simp,rfl⟩))
 have N:=ay an;have a5:=N.num;have h0:b.aA[0]?=c7 (b.aA[0]'(by omega)):=c6 (by omega);have D:=dd (show 0<b.aA.length by omega);generalize b.aA[0]'(by omega)=S at h0 D;have ao:aj b.aA 0=c7 S:=by rw[show(0:Int)=((0:Nat):Int) from rfl,bn];exact h0
 have aE:=(I S D).2;have a2:=N.Mp D (by omega);rw[ao,aa,aE,aJ (n:=(n:Int) -1),cF,aa,cF,aa,fh (fh rfl),aa];refine aV (λ_=>ae (.inr ⟨by simp,rfl⟩)) (λa4=>?_)
 rw[cF,aa,de];refine aV (λag=>?_) (λ_=>ae (.inr ⟨by simp,rfl⟩))
 have L:0<=i/\i<(n:Int):=by omega
 have F:0<=c/\c<(n:Int):=by omega
 have ax:i≠c:=by omega
 unfold Ke;rw[pr (by decide) B.1,aa];refine aD (Q:=λe=>e.length<=12/\(∀a,a∈b.aA->a∈e)/\(∀a k l,a∈b.aA->a.aH[i.toNat]?=c7 k->a.aH[c.toNat]?=c7 l->(∃p,p∈dz k h/\p∈dz l h)->rU i c h a∈e)/\∀g,g∈e->g∈b.aA\/∃a,a∈b.aA/\g=rU i c h a) ?_ λe af=>?_
 .refine di b.aA.length (λm r=>∃e,r=(e,(m:Int))/\e.length<=6+m/\(∀a,a∈b.aA->a∈e)/\(∀a k l,a∈b.aA.take m->a.aH[i.toNat]?=c7 k->a.aH[c.toNat]?=c7 l->(∃p,p∈dz k h/\p∈dz l h)->rU i c h a∈e)/\∀g,g∈e->g∈b.aA\/∃a,a∈b.aA/\g=rU i c h a) _ (λm r G O=>?_) (λr O=>?_) _ ⟨b.aA,rfl,by omega,λa j=>j,λa k l j=>(by simp at j),λg j=>.inl j⟩
  .obtain⟨e,rfl,aF,A,u,C⟩:=O;have M:b.aA[m]?=c7 b.aA[m]:=c6 G;have x:=dd G;generalize b.aA[m]=a at M x;have t:=B.2 a x;obtain⟨aB,a0⟩:=I a x;have a3:=aB.1;have R:a.aH[i.toNat]?=c7 (a.aH[i.toNat]'(by omega)):=c6 (by omega);have T:a.aH[c.toNat]?=c7 (a.aH[c.toNat]'(by omega)):=c6 (by omega);have Y:=dd (show i.toNat<a.aH.length by omega);have ab:=dd (show c.toNat<a.aH.length by omega);generalize a.aH[i.toNat]'(by omega)=k at R Y;generalize a.aH[c.toNat]'(by omega)=l at T ab;have aS:aj a.aH i=c7 k:=by unfold aj;rw[if_pos L.1];exact R
   have aT:aj a.aH c=c7 l:=by unfold aj;rw[if_pos F.1];exact T
   dsimp only;unfold H9;rw[aC,bn,M,aa,aS,aa,aT,aa,Zn (t.fr k Y) (t.fr l ab),aa,de,aJ (n:=(m:Int)+1),iE M]
   by_cases P:∃p,p∈dz k h/\p∈dz l h
   rotate_left
   .rw[aG P,aa];refine ae ⟨e,rfl,by omega,A,λg U K d s o E=>?_,C⟩
    rcases e4.1 d with d |d
    .exact u g U K d s o E
    .rw[e0] at d;subst d;rw[R] at s;rw[T] at o;injection s with s;injection o with o
     subst s o;exact absurd E P
   rw[aC P,Zo t,aa];have H:a.aw[i.toNat]?=c7 (a.aw[i.toNat]'(by omega)):=c6 (by omega);have y:a.aw[c.toNat]?=c7 (a.aw[c.toNat]'(by omega)):=c6 (by omega);have J:gL i c a.aw=(a.aw.set i.toNat (a.aw[c.toNat]'(by omega))).set c.toNat (a.aw[i.toNat]'(by omega)):=by unfold gL;rw[H,y]
   generalize a.aw[i.toNat]'(by omega)=au at H J;generalize a.aw[c.toNat]'(by omega)=w at y J;have ap:aj a.aw i=c7 au:=by unfold aj;rw[if_pos L.1];exact H
   have ai:aj a.aw c=c7 w:=by unfold aj;rw[if_pos F.1];exact y
   have aQ:c.toNat<(a.aw.set i.toNat w).length:=by rw[dT];omega
   have ar:aj (a.aw.set i.toNat w) c=c7 ((a.aw.set i.toNat w)[c.toNat]):=qC F.1 (by rw[dT];omega);dsimp only;rw[ai,aa,y,aa,ap,aa,H,aa,aa,aa,ar,aa,c6 aQ,aa];have aR:bO (λr:List aM×Int=>tC LC i c h r.1 r.2) (a.aH,0)=c7 (kH c h (kH i h a.aH)):=by
    refine akO (f:=λal ah=>tC LC i c h al ah) (λb e=>if b then kH c h e else kH i h e) a.aH ?_ ?_ (λr=>?_)
    .unfold tC;rw[aC (by decide),show aj ([i,c]:List Int) 0=c7 i from rfl,aa];refine(NG (by omega) t.fr).trans ?_
     rfl
    .simp only[j5,if_false,if_true];unfold tC;rw[aC (by decide),show aj ([i,c]:List Int) 1=c7 c from rfl,aa];refine(NG (by rw[ID];omega) (λz az=>?_)).trans ?_
     .obtain⟨q,aq⟩:=hQ.1 az;obtain⟨z0,am,aN,_⟩:=F3 aq;rw[aN];exact t.fr z0 (fC am)
     .rfl
    .unfold tC;rfl
   rw[aR];simp only[aa];rw[dm (by decide) (by omega),aa,aa, <-J];refine ae ⟨_,rfl,by simp;omega,λg j=>by simp[A g j],λg U K d s o E=>?_,λg d=>?_⟩
   .rcases e4.1 d with d |d
    .exact List.mem_append_left _ (u g U K d s o E)
    .rw[e0] at d;subst d;exact List.mem_append_right _ (by simp[rU])
   .rcases e4.1 d with d |d
    .exact C g d
    .rw[e0] at d;exact .inr ⟨a,x,d⟩
  .obtain⟨e,rfl,aF,A,u,C⟩:=O;dsimp only;unfold H9;rw[aG];rw[gy] at u;exact ae ⟨by omega,A,u,C⟩
 .obtain⟨aU,W,aK,Z⟩:=af;have aH:∀a,a∈e->j0 n np a/\Sm a.aw:=λg d=>by
   rcases Z g d with j |⟨a,j,rfl⟩
   .exact⟨(I g j).1,(B.2 g j).tg⟩
   .obtain⟨X,aZ⟩:=I a j;refine⟨⟨?_,λk aI=>?_⟩,?_⟩
    .show(kH c h (kH i h a.aH)).length=n
     rw[ID,ID];exact X.1
    .obtain⟨m,G⟩:=hQ.1 aI;obtain⟨aX,aA,ac,_⟩:=F3 G;obtain⟨aw,ad,aP,_⟩:=F3 aA;rw[ac,aP];exact X.2 aw (fC ad)
    .show(gL i c a.aw).length<=1000000
     unfold gL
     split
     .rw[dT,dT];omega
     .omega
  refine aD (QQ (by omega) (by omega) e aH (by omega)) λout aO=>?_
  refine aV (λ_=>ae (.inr ⟨by simp,rfl⟩)) (λa6=>ae (.inl ⟨rfl,N,by show out.length<=24;omega,⟨L,F,ax,ag⟩,e,aO,λav=>?_,W,aK,Z⟩))
  have:=W S D;rw[av] at this;cases this
def gG(h:aM->aM->Prop)(e c:List ay):Prop:=c.length=e.length/\∀(i:Nat) b a,e[i]?=c7 b->c[i]?=c7 a->a.aw=b.aw/\a.aH.length=b.aH.length/\∀(f:Nat) g d,b.aH[f]?=c7 g->a.aH[f]?=c7 d->h g d
def gG.snoc{m:aM->aM->Prop}{l n:List ay}{j d:ay}(h:gG m l n)(A:d.aw=j.aw)(y:d.aH.length=j.aH.length)(u:∀(k:Nat) x o,j.aH[k]?=c7 x->d.aH[k]?=c7 o->m x o):gG m (l++[j]) (n++[d]):=by
 refine⟨by simp[h.1],λi s t a c=>?_⟩
 have w:=h.1
 by_cases hi:i<l.length
 .rw[h6 hi] at a;rw[h6 (by omega)] at c;exact h.2 i s t a c
 .rw[ez (by omega)] at a;rw[ez (by omega),w] at c;have e:i -l.length=0:=by
   have:=(dt.1 a).1;simp at this;omega
  rw[e] at a c;have a:j=s:=by simpa using a
  have c:d=t:=by simpa using c
  subst a c;exact⟨A,y,u⟩
def gG.nil{a:aM->aM->Prop}:gG a [] []:=⟨rfl,λi d c h=>by simp at h⟩
def gG.back{m:aM->aM->Prop}{c e:List ay}(h:gG m c e){a:ay}(n:a∈e):∃d,d∈c/\a.aw=d.aw/\a.aH.length=d.aH.length/\∀(k:Nat) x j,d.aH[k]?=c7 x->a.aH[k]?=c7 j->m x j:=by
 obtain⟨i,hi,rfl⟩:=e5.1 n;have l:i<c.length:=by rw[<-h.1];exact hi
 exact⟨c[i],dd l,h.2 i _ _ (c6 l) (c6 hi)⟩
def Gq(j:ak)(b:aL)(m:Int)(U:gF b)(O:Fit j.ai):Ok (kW LC j b m) λq=>(q.2=0/\cP j/\1<=b.aA.length/\b.aA.length<=24/\gG (λc e=>mP j c m e) b.aA q.1.aA)\/(q.2≠0/\q.1=b):=by
 unfold kW;rw[ko,aa,cF,aa,lA,fh rfl,aa];refine aV (λ_=>ae (.inr ⟨by simp,rfl⟩)) (λz=>?_)
 have Z:cP j:=dv λy=>z (.inl y)
 have y:1<=(b.aA.length:Int)/\(b.aA.length:Int)<=24:=dv λy=>z (.inr y)
 refine aD (Q:=λa=>match a with
  | .inl a=>a.2≠0/\aL.mk a.1=b
  | .inr a=>a.2=0->gG (λc e=>mP j c m e) b.aA a.1) ?_ λa M=>?_
 .refine di b.aA.length (λi d=>∃out o,d=(out,o,(i:Int))/\out.length=i/\(o=0->gG (λc e=>mP j c m e) (b.aA.take i) out)) _ (λi d L p=>?_) (λd p=>?_) _ ⟨[],0,rfl,rfl,λ_=>gG.nil⟩
  .obtain⟨out,o,rfl,G,x⟩:=p;have D:b.aA[i]?=c7 b.aA[i]:=c6 L;have N:=dd L;generalize b.aA[i]=h at D N;have J:=U.2 h N;have ac:=jZ J.wh;dsimp only;unfold Ka;rw[aC,bn,D,aa,zK J,aa];dsimp only;have ab:Ok (bO (λd:List aM×Int×Int=>An LC h j m b d.1 d.2.1 d.2.2) (h.aH,o,0)) λa=>match a with
    | .inl a=>a.2=6/\a.1=b.aA
    | .inr a=>a.1.length=h.aH.length/\(a.2=0->o=0/\∀(f:Nat) c e,h.aH[f]?=c7 c->a.1[f]?=c7 e->mP j c m e):=by
    refine di h.aH.length (λf d=>d.2.2=(f:Int)/\d.1.length=h.aH.length/\(d.2.1=0->o=0/\∀(n:Nat) c e,n<f->h.aH[n]?=c7 c->d.1[n]?=c7 e->mP j c m e)) _ (λf d E p=>?_) (λd p=>?_) _ ⟨rfl,rfl,λz=>⟨z,λn c e H=>by omega⟩⟩
    .obtain⟨aK,l,X⟩:=d;obtain⟨rfl,v,t⟩:=p;dsimp only at v t⊢;have s:h.aH[f]?=c7 h.aH[f]:=c6 E;generalize h.aH[f]=c at s;unfold An;rw[aC,bn,s,aa];refine aD (Pd j c m O) λq w=>?_
     refine aV (λB=>ae ⟨B,rfl⟩) (λB=>?_)
     have C:(bif c5 (l=0) then c7 q.2 else c7 l)=c7 (if l=0 then q.2 else l):=by
      by_cases k:l=0
      .rw[aC k,if_pos k]
      .rw[aG k,if_neg k]
     have F:f<aK.length:=by omega
     rw[C,aa,bn,c6 F,aa,dk,c6 F,aa,aJ];refine ae ⟨rfl,by rw[dT];exact v,λg=>?_⟩
     dsimp only at g⊢;have k:l=0:=by
      by_cases k:l=0
      .exact k
      .rw[if_neg k] at g;exact g
     rw[if_pos k] at g;obtain⟨A,H⟩:=t k;refine⟨A,λn Y T ad u r=>?_⟩
     by_cases I:n=f
     .subst I;rw[gv F] at r;rw[s] at u;injection u with u
      injection r with r
      subst u r;rcases w with⟨_,w⟩ |⟨w,_⟩
      .exact w
      .omega
     .rw[hz (λC=>I C.symm)] at r;exact H n Y T (by omega) u r
    .obtain⟨aK,l,X⟩:=d;obtain⟨rfl,v,t⟩:=p;dsimp only at v t⊢;unfold An;rw[aG];refine ae ⟨v,λg=>⟨(t g).1,λf c e s V=>(t g).2 f c e (dt.1 s).1 s V⟩⟩
   obtain⟨a,S,K⟩:=ab;rw[S];simp only[aa];cases a with
   |inl a=>
    obtain⟨B,P⟩:=K;dsimp only[ft,ej];rw[aa];dsimp only[ft,ej];refine ae ⟨by show a.2≠0;omega,?_⟩
    show aL.mk a.1=b
    rw[P]
   |inr a=>
    obtain⟨W,R⟩:=K;dsimp only[ft,ej];rw[aa];dsimp only[ft,ej];rw[dm (by decide) (by omega),aa,aJ];refine ae ⟨_,_,rfl,by simp[G],λg=>?_⟩
    obtain⟨A,E⟩:=R g;rw[iE D];exact(x A).snoc rfl W E
  .obtain⟨out,o,rfl,G,x⟩:=p;dsimp only;unfold Ka;rw[aG];rw[gy] at x;exact ae x
 .cases a with
  |inl a=>exact ae (.inr M)
  |inr a=>
   dsimp only[ej];refine aV (λg=>ae (.inr ⟨g,rfl⟩)) (λg=>ae (.inl ⟨rfl,Z,by omega,by omega,M (eo.1 g)⟩))
structure ki (m:ak) (l:List Int) (bm:ak):Prop where
 fN:cP m
 fy:cj 0 ((m.af.length:Int) -1) l
 pl:bm.ai=m.ai
 len:bm.af.length=m.af.length
 off:∀(i:Nat) r r',m.af[i]?=c7 r->bm.af[i]?=c7 r'->r'=r/\(i:Int)∉l\/r'={r with jy:=false}/\(i:Int)∈l
def Nw(d:ak)(b:List Int)(C:Fit b)(F:Fit d.af):Ok (sW LC d b) λq=>(q.2=0/\ki d b q.1)\/(q.2≠0/\(cP d->¬cj 0 ((d.af.length:Int) -1) b)/\q.1=⟨[],[]⟩):=by
 unfold sW;rw[ko,aa,de];refine aV (λl=>?_) (λs=>ae (.inr ⟨by simp,λh=>absurd h s,rfl⟩))
 have G:=l.2.1;rw[aJ,kw _ _ _ C,aa,de];refine aV (λv=>?_) (λs=>ae (.inr ⟨by simp,λ_=>s,rfl⟩))
 rw[mV (cX l.1 (by decide)),aa,nk (cX l.2.1 (by decide)),aa];have H:=v.len (by omega);refine aD (Q:=λn=>n.length=d.af.length/\∀(i:Nat) r c,d.af[i]?=c7 r->n[i]?=c7 c->c=r/\(i:Int)∉b\/c={r with jy:=false}/\(i:Int)∈b) ?_ λn z=>ae (.inl ⟨rfl,l,v,rfl,z.1,z.2⟩)
 refine di b.length (λe g=>g.2=(e:Int)/\g.1.length=d.af.length/\∀(i:Nat) r c,d.af[i]?=c7 r->g.1[i]?=c7 c->c=r/\(i:Int)∉b.take e\/c={r with jy:=false}/\(i:Int)∈b.take e) _ (λe g y t=>?_) (λg t=>?_) _ ⟨rfl,rfl,λi r c h a=>.inl ⟨by rw[h] at a;injection a with a;exact a.symm,by simp⟩⟩
 .obtain⟨aK,E⟩:=g;obtain⟨rfl,j,f⟩:=t;dsimp only at j f⊢;have w:b[e]?=c7 b[e]:=c6 y;have A:=v.mem (dd y);generalize b[e]=p at w A;have B:p.toNat<aK.length:=by omega
  have x:aj aK p=c7 (aK[p.toNat]):=qC A.1 (by omega);have k:aK[p.toNat]?=c7 (aK[p.toNat]):=c6 B;generalize aK[p.toNat]=D at x k;unfold Hb;rw[aC,bn,w,aa,x,aa,k,aa,aJ];refine ae ⟨rfl,by rw[dT];exact j,λi r c h a=>?_⟩
  rw[iE w];dsimp only at a;rw[hK] at a
  by_cases o:p.toNat=i
  .rw[if_pos o,if_pos B] at a;injection a with a
   subst a;rw[o] at k;refine .inr ⟨?_,by simp;right;omega⟩
   rcases f i r D h k with⟨rfl,_⟩ |⟨rfl,_⟩ <;> rfl
  .rw[if_neg o] at a;rcases f i r c h a with⟨u,m⟩ |⟨u,m⟩
   .exact .inl ⟨u,by simp[m];omega⟩
   .exact .inr ⟨u,by simp[m]⟩
 .obtain⟨aK,E⟩:=g;obtain⟨rfl,j,f⟩:=t;dsimp only at j f⊢;unfold Hb;rw[aG];rw[gy] at f;exact ae ⟨j,f⟩
def acx(a:ak)(b:List Int)(g:Fit b)(i:Fit a.af):Ok (vU LC a b) λq=>(q.2.2=0/\ki a b ⟨q.1,q.2.1⟩)\/(q.2.2≠0/\(cP a->¬cj 0 ((a.af.length:Int) -1) b)/\q.1=[]/\q.2.1=[]):=by
 have m:vU LC a b=(sW LC a b).bind λq=>c7 (q.1.ai,q.1.af,q.2):=by
  unfold vU sW;rw[ko,aa,aa]
  by_cases d:cP a
  rotate_left
  .rw[decide_eq_false d];rfl
  rw[decide_eq_true d];have o:=d.2.1;rw[aJ,kw _ _ _ g,aa,aa]
  by_cases h:cj 0 ((a.af.length:Int) -1) b
  rotate_left
  .rw[decide_eq_false h];rfl
  rw[decide_eq_true h];simp only[ey,cond_false];rw[mV (cX d.1 (by decide)),aa,aa,nk (cX d.2.1 (by decide)),aa,aa];show((bO (λc:List aZ×Int=>Bp LC b c.1 c.2) (a.af,0)).bind λe=>c7 (a.ai,e,(0:Int)))=((bO (λc:List aZ×Int=>Bp LC b c.1 c.2) (a.af,0)).bind λe=>c7 (ak.mk a.ai e,(0:Int))).bind λq=>c7 (q.1.ai,q.1.af,q.2)
  cases bO (λc:List aZ×Int=>Bp LC b c.1 c.2) (a.af,0) <;> rfl
 rw[m];refine aD (Nw a b g i) λq j=>ae ?_
 rcases j with n |⟨l,k,f⟩
 .exact .inl n
 .exact .inr ⟨l,k,by rw[f],by rw[f]⟩
structure rI (bm:ak) (t:Int) (x y:aM):Prop where
 new:jK bm y
 time:y.aa0=t
 wt:x.aa0<=t/\t<=2147483648
 le:∀p,0<=p->p<(bm.ai.length:Int)->fn x.an p<=t->fn y.an p<=fn x.an p
def apC{bm:ak}{x:aM}{t:Int}(J:x.an.length=bm.ai.length)(I:∀v,v∈x.an->fD v)(H:cP bm):Ok (CA LC bm x t) λq=>(q.2=0/\rI bm t x q.1)\/q.2≠0:=by
 have L:=H.1;unfold CA;rw[B6 (by omega),aa,Az (cX (n:=64) (by omega) (by decide)),aa];have A:(ee x.an.length (1099511627776:Int)).length=x.an.length:=e6;have u:∀p,p∈dz x t->0<=p/\p<(x.an.length:Int):=λp f=>by have:=Sq.1 f;exact⟨this.1,this.2.1⟩
 have K:(dz x t).length<=x.an.length:=pQ;refine aD (Q:=λi=>i.length=x.an.length/\(∀v,v∈i->fD v)/\∀p,p∈dz x t->fn i p=fn x.an p) ?_ λi F=>?_
 .refine di (dz x t).length (λe c=>c.2=(e:Int)/\c.1.length=x.an.length/\(∀v,v∈c.1->fD v)/\∀b p,b<e->(dz x t)[b]?=c7 p->fn c.1 p=fn x.an p) _ (λe c w s=>?_) (λc s=>?_) _ ⟨rfl,A,λv h=>.inr (gx h),λb p m=>by omega⟩
  .obtain⟨aK,G⟩:=c;obtain⟨rfl,k,j,g⟩:=s;dsimp only at k j g⊢;have f:(dz x t)[e]?=c7 (dz x t)[e]:=c6 w;have d:=u _ (dd w);generalize (dz x t)[e]=p at f d;unfold JO;rw[aC,bn,f,aa,gH d.1 d.2,aa,gH (l:=aK) d.1 (by omega),aa,iD (l:=aK) d.1 (by omega),aa,aJ];have B:=λq a=>wy (l:=aK) (p:=p) (q:=q) (x:=fn x.an p) d.1 (by omega) a
   refine ae ⟨rfl,by rw[dT];exact k,λv h=>?_,λb q m a=>?_⟩
   .rcases eE h with h |rfl
    .exact j v h
    .exact I _ (oR d.1 d.2)
   .dsimp only;have C:=u q (fC a);rw[B q C.1]
    split
    .rename_i r;rw[r]
    .rename_i r
     by_cases D:b=e
     .subst D;rw[f] at a;injection a with a;exact absurd a.symm r
     .exact g b q (by omega) a
  .obtain⟨aK,G⟩:=c;obtain⟨rfl,k,j,g⟩:=s;dsimp only at k j g⊢;unfold JO;rw[aG];refine ae ⟨k,j,λp f=>?_⟩
   obtain⟨b,m,rfl⟩:=e5.1 f;exact g b _ m (c6 m)
 .rw[acr];refine aD (Pd bm ⟨x.aa0,i⟩ t (by show bm.ai.length<=_;omega)) λq a=>ae ?_
  rcases a with⟨h0,o⟩ |⟨h0,_⟩
  .refine .inl ⟨h0,o.new,o.time,o.wt,λp y z E=>?_⟩
   have:=o.le p y z;rw[F.2.2 p (Sq.2 ⟨y,by omega,E⟩)] at this;exact this
  .exact .inr (by show q.2≠0;omega)
def Yj{l:List ay}{a:Int}(h:Fit l)(g:∀d,d∈l->Fit d.aH):AL LC l a=c7 (l.any λd=>d.aH.any λe=>c5 (a<e.aa0)):=by
 unfold AL Jm;have:=fF (l:=l) (P:=λc=>AP LC c a) (p:=λd=>d.aH.any λe=>c5 (a<e.aa0)) (f:=λb=>Jx LC l a b) h (λc i=>by
  unfold AP JC Gk;have:=fF (l:=c.aH) (P:=λc=>Jb LC c a) (p:=λe=>c5 (a<e.aa0)) (f:=λb=>Gr LC c.aH a b) (g c i) (λj k=>rfl) (λb=>rfl);rw[show(LC.loop (λb=>Gr LC c.aH a b) 0).bind _=_ from this,aa,gm]
  rfl) (λb=>rfl)
 rw[show(LC.loop (λb=>Jx LC l a b) 0).bind _=_ from this,aa,gm]
structure Ff (m:ak) (b:aL) (l:List Int) (t:Int) (n np:Nat) (b':aL):Prop where
 v:mz m b
 ex:∃bm lw,ki m l bm/\gG (λx y=>rI bm t x y) b.aA lw/\rZ n np lw b'.aA
def adg{g e:ak}{k:List Int}(n:ki g k e):cP e:=by
 obtain⟨a,_,c,l,m⟩:=n;refine⟨by rw[c];exact a.1,by rw[l];exact a.2.1,by rw[c];exact a.2.2.1,λo j=>?_⟩
 obtain⟨i,h,rfl⟩:=e5.1 j;have f:i<g.af.length:=by omega
 rw[c];have d:=a.2.2.2 _ (dd f);rcases m i _ _ (c6 f) (c6 h) with⟨b,_⟩ |⟨b,_⟩
 .rw[b];exact d
 .rw[b];exact d
def Uw(m:ak)(b:aL)(p:List Int)(t:Int){n np:Nat}(aj:n<=3)(ay:np<=64)(L:gF b)(ad:Fit p)(V:Fit m.af)(F:∀a,a∈b.aA->j0 n np a/\a.aw.length=n)(U:m.ai.length=np):Ok (Em LC m b p t) λq=>(q.2=0/\Ff m b p t n np q.1)\/q.2≠0:=by
 unfold Em;refine aD (vB m b L) λv W=>?_
 rw[de];refine dy (λY=>?_) (λ_=>ae (.inr (by simp)))
 have C:=W Y;have aA:=C.num;have h0:b.aA[0]?=c7 (b.aA[0]'(by omega)):=c6 (by omega);have N:=dd (show 0<b.aA.length by omega);generalize b.aA[0]'(by omega)=ao at h0 N;have az:=C.Mp N (by rw[(F ao N).2];exact aj);refine aD (Nw m p ad V) λr ar=>?_
 refine aV (λA=>ae (.inr A)) (λX=>?_)
 obtain⟨bm,ac⟩:=r;have G:ki m p bm:=by
  rcases ar with⟨_,o⟩ |⟨o,_⟩
  .exact o
  .exact absurd o X
 have av:=adg G;rw[Yj (by show b.aA.length<=_;omega) (λa g=>by show a.aH.length<=_;rw[(F a g).1.1];omega),aa];have K:(bif c5 (2147483648<t) then c7 true else c7 (b.aA.any λa=>a.aH.any λx=>c5 (t<x.aa0)))=c7 (c5 (2147483648<t)||b.aA.any λa=>a.aH.any λx=>c5 (t<x.aa0)):=Fy rfl;rw[K,aa];refine dy (λ_=>ae (.inr (by simp))) (λ_=>?_)
 refine aD (Q:=λc=>match c with
  | .inl c=>c.2≠0
  | .inr c=>gG (λx B=>rI bm t x B) b.aA c) ?_ λc E=>?_
 .refine di b.aA.length (λi e=>∃out,e=(out,(i:Int))/\gG (λx B=>rI bm t x B) (b.aA.take i) out) _ (λi e T l=>?_) (λe l=>?_) _ ⟨[],rfl,gG.nil⟩
  .obtain⟨out,rfl,u⟩:=l;have g:b.aA[i]?=c7 b.aA[i]:=c6 T;have H:=dd T;generalize b.aA[i]=a at g H;have Z:=L.2 a H;obtain⟨D,al⟩:=F a H;have aB:=D.1;have P:=u.1;rw[ea] at P;dsimp only;unfold FR;rw[aC,bn,g,aa,zK Z,aa];dsimp only;have au:Ok (bO (λe:List aM×Int=>zx LC a (bm,ac) t b e.1 e.2) (a.aH,0)) λc=>match c with
    | .inl c=>c.2≠0
    | .inr c=>c.length=a.aH.length/\∀(d:Nat) x h,a.aH[d]?=c7 x->c[d]?=c7 h->rI bm t x h:=by
    refine di a.aH.length (λd e=>e.2=(d:Int)/\e.1.length=a.aH.length/\∀(k:Nat) x h,k<d->a.aH[k]?=c7 x->e.1[k]?=c7 h->rI bm t x h) _ (λd e y l=>?_) (λe l=>?_) _ ⟨rfl,rfl,λk x h aw=>by omega⟩
    .obtain⟨aK,aq⟩:=e;obtain⟨rfl,z,s⟩:=l;dsimp only at z s⊢;have f:a.aH[d]?=c7 a.aH[d]:=c6 y;have J:=dd y;generalize a.aH[d]=x at f J;unfold zx;rw[aC,bn,f,aa];refine aD (apC (bm:=bm) (x:=x) (t:=t) (by rw[D.2 x J,G.pl,U]) (C.ok a H x J).1.2.2 av) λq ab=>?_
     refine aV (λA=>ae A) (λA=>?_)
     have am:rI bm t x q.1:=by
      rcases ab with⟨_,o⟩ |o
      .exact o
      .exact absurd o A
     have O:d<aK.length:=by omega
     rw[bn,c6 O,aa,dk,c6 O,aa,aJ];refine ae ⟨rfl,by rw[dT];exact z,λk B ah aF w j=>?_⟩
     dsimp only at j
     by_cases R:k=d
     .subst R;rw[gv O] at j;rw[f] at w;injection w with w
      injection j with j
      subst w j;exact am
     .rw[hz (λK=>R K.symm)] at j;exact s k B ah (by omega) w j
    .obtain⟨aK,aq⟩:=e;obtain⟨rfl,z,s⟩:=l;dsimp only at z s⊢;unfold zx;rw[aG];exact ae ⟨z,λd x h f an=>s d x h (dt.1 f).1 f an⟩
   obtain⟨c,ag,S⟩:=au;rw[ag];simp only[aa];cases c with
   |inl c=>
    dsimp only[ft,ej];rw[aa];exact ae S
   |inr c=>
    obtain⟨M,I⟩:=S;dsimp only[ft,ej];rw[aa];dsimp only[ft,ej];rw[dm (by decide) (by omega),aa,aJ];refine ae ⟨_,rfl,?_⟩
    rw[iE g];exact u.snoc rfl M I
  .obtain⟨out,rfl,u⟩:=l;dsimp only;unfold FR;rw[aG];rw[gy] at u;exact ae u
 .cases c with
  |inl c=>exact ae (.inr E)
  |inr c=>
   dsimp only[ej];have P:=E.1;refine aD (QQ (n:=n) (np:=np) (by omega) (by omega) c (λaE ap=>?_) (by omega)) λout af=>ae (.inl ⟨rfl,C,bm,c,G,E,af⟩)
   obtain⟨a,g,M,I,ai⟩:=E.back ap;obtain⟨D,al⟩:=F a g;refine⟨⟨I.trans D.1,λx f=>?_⟩,by rw[M];exact(L.2 a g).tg⟩
   obtain⟨d,y⟩:=hQ.1 f;have ax:=(dt.1 y).1;have:=(ai d _ x (c6 (show d<a.aH.length by omega)) y).new.1.1;rw[this,G.pl,U]
def ld(b:aL)(a e:Int):List Int:=kM (λp=>b.aA.any λd=>c5 (0<=a/\a<(d.aH.length:Int))&&(match d.aH[a.toNat]? with |some c=>c5 (p<(c.an.length:Int))&&c5 (fn c.an p<=e) |none=>false)) 64
def RJ{b:aL}{f k p:Int}:p∈ld b f k↔0<=p/\p<64/\∃c d,c∈b.aA/\0<=f/\c.aH[f.toNat]?=c7 d/\p<(d.an.length:Int)/\fn d.an p<=k:=by
 unfold ld;rw[SJ,m2]
 constructor
 .rintro⟨j,i,c,g,l⟩;rw[j3,decide_eq_true_iff] at l;obtain⟨h,a⟩:=l;cases e:c.aH[f.toNat]? with
  |none=>rw[e] at a;cases a
  |some d=>
   rw[e] at a;dsimp only at a;rw[j3,decide_eq_true_iff,decide_eq_true_iff] at a;exact⟨j,i,c,d,g,h.1,e,a.1,a.2⟩
 .rintro⟨j,i,c,d,g,h,e,a,m⟩;refine⟨j,i,c,g,?_⟩
  have:=(dt.1 e).1;rw[e];dsimp only;rw[j3,decide_eq_true_iff,j3,decide_eq_true_iff,decide_eq_true_iff];exact⟨⟨h,by omega⟩,a,m⟩
def QC{b:aL}{a e:Int}(m:gF b):rJ LC b a e=c7 (ld b a e):=by
 unfold rJ Lb;have u:=jZ m.1;have r:=GY (n:=64) (by omega) (P:=λd=>AZ LC d b.aA a e) (p:=λp=>b.aA.any λc=>c5 (0<=a/\a<(c.aH.length:Int))&&(match c.aH[a.toNat]? with |some g=>c5 (p<(g.an.length:Int))&&c5 (fn g.an p<=e) |none=>false)) (f:=λd=>JI LC 64 b.aA a e d.1 d.2) (λi s=>by
  unfold AZ FH Gu;have:=fF (l:=b.aA) (P:=λc=>zt LC c a (i:Int) e) (p:=λc=>c5 (0<=a/\a<(c.aH.length:Int))&&(match c.aH[a.toNat]? with |some g=>c5 ((i:Int)<(g.an.length:Int))&&c5 (fn g.an i<=e) |none=>false)) (f:=λd=>GA LC b.aA a (i:Int) e d) (by omega) (λc o=>by
   unfold zt;have t:=jZ (m.2 c o).wh;rw[aJ (n:=(c.aH.length:Int) -1),cF,aa]
   by_cases k:0<=a/\a<=(c.aH.length:Int) -1
   .have j:c.aH[a.toNat]?=c7 (c.aH[a.toNat]'(by omega)):=c6 (by omega);generalize c.aH[a.toNat]'(by omega)=g at j;have q:aj c.aH a=c7 g:=by unfold aj;rw[if_pos k.1];exact j
    rw[aC k,q,aa,aa,j,decide_eq_true (show 0<=a/\a<(c.aH.length:Int) by omega),Bool.true_and];dsimp only
    by_cases h:(i:Int)<(g.an.length:Int)
    .rw[aC h,gH (by omega) h,aa,decide_eq_true h];rfl
    .rw[aG h,decide_eq_false h];rfl
   .rw[aG k,decide_eq_false (show ¬(0<=a/\a<(c.aH.length:Int)) by omega)];rfl) (λd=>rfl)
  rw[show(LC.loop (λd=>GA LC b.aA a (i:Int) e d) 0).bind _=_ from this,aa,gm]
  rfl) (λl d=>rfl)
 rw[show LC.loop (λd:List Int×Int=>JI LC 64 b.aA a e d.1 d.2) ([],0)=_ from r,aa,aa]
 rfl
def js(e:ay)(d:List Int)(b:Int)(a:Nat):Bool:=match e.aH[a]? with |some c=>(dz c b).any λp=>c5 (p∈d) |none=>false
def jT(d:ay)(c:List Int)(b:Int)(a:Nat):Bool:=js d c b a&&(match d.aH[a]? with |some e=>!(dz e b).any λp=>!c5 (p∈c) |none=>false)
def Zz{e:ay}{g:Nat}{a:List Int}{b:Int}(k:tz e)(n:Fit a)(m:g<e.aH.length):Cx LC e (g:Int) a b=c7 (jT e a b g,js e a b g):=by
 have j:e.aH[g]?=c7 e.aH[g]:=c6 m;have i:=dd m;unfold Cx jT js;rw[j];generalize e.aH[g]=c at j i;have s:=jZ (k.fr c i);have t:(dz c b).length<=c.an.length:=pQ;have o:CG LC (dz c b) a=c7 ((dz c b).any λp=>c5 (p∈a)):=by
  unfold CG Jg;have:=fF (l:=dz c b) (P:=λh=>uh LC h a) (p:=λp=>c5 (p∈a)) (f:=λd=>Jj LC (dz c b) a d) (by omega) (λh q=>by
   unfold uh;rw[contains_eq n,aa]) (λd=>rfl)
  rw[show(LC.loop (λd=>Jj LC (dz c b) a d) 0).bind _=_ from this,aa,gm]
 have r:zo LC (dz c b) a=c7 ((dz c b).any λp=>!c5 (p∈a)):=by
  unfold zo FW;have:=fF (l:=dz c b) (P:=λh=>zq LC h a) (p:=λp=>!c5 (p∈a)) (f:=λd=>Ih LC (dz c b) a d) (by omega) (λh q=>by
   unfold zq uh;rw[contains_eq n,aa,aa]) (λd=>rfl)
  rw[show(LC.loop (λd=>Ih LC (dz c b) a d) 0).bind _=_ from this,aa,gm]
 rw[aG,bn,j,aa,Az (k.fr c i),aa,o,aa,r,aa];dsimp only;cases (dz c b).any λp=>c5 (p∈a) <;> rfl
def fH(p:Nat->Bool):Nat->Int
 |0=>0
 |a+1=>fH p a+(if p a then 1 else 0)
def Iu(p:Nat->Bool):∀a,0<=fH p a/\fH p a<=a
 |0=>by unfold fH;omega
 |a+1=>by have:=Iu p a;unfold fH;split <;> omega
def aqJ{b:aL}{c:List Int}{d:Int}(s:gF b)(B:Fit c):Ok (Ew LC b c d) λg=>∀a,a∈b.aA->g.eF<=fH (jT a c d) a.aH.length/\fH (js a c d) a.aH.length<=g.fk:=by
 have C:=jZ s.1;unfold Ew;refine aD (Q:=λo=>∀a,a∈b.aA->o.1<=fH (jT a c d) a.aH.length/\fH (js a c d) a.aH.length<=o.2) ?_ λo A=>ae A
 refine di b.aA.length (λi g=>g.2.2=(i:Int)/\∀a,a∈b.aA.take i->g.1<=fH (jT a c d) a.aH.length/\fH (js a c d) a.aH.length<=g.2.1) _ (λi g t h=>?_) (λg h=>?_) _ ⟨rfl,λa k=>by simp at k⟩
 .obtain⟨m,q,y⟩:=g;obtain⟨rfl,h⟩:=h;dsimp only at h⊢;have k:b.aA[i]?=c7 b.aA[i]:=c6 t;have u:=dd t;generalize b.aA[i]=a at k u;have r:=s.2 a u;have E:=jZ r.wh;unfold Fa;rw[aC,bn,k,aa];have x:=nV (f:=λg:Int×Int×Int=>DF LC a c d g.1 g.2.1 g.2.2) a.aH.length (λe=>(fH (jT a c d) e,fH (js a c d) e,(e:Int))) (fH (jT a c d) a.aH.length,fH (js a c d) a.aH.length) (λe z=>by
   dsimp only;unfold DF;have F:=Iu (jT a c d) e;have D:=Iu (js a c d) e;rw[aC,Zz r B z,aa];dsimp only;rw[aJ (n:=fH (jT a c d) e+1),aJ (n:=fH (js a c d) e+1),aJ (n:=(e:Int)+1)];have v:(bif jT a c d e then c7 (fH (jT a c d) e+1) else c7 (fH (jT a c d) e))=c7 (fH (jT a c d) (e+1)):=by
    rw[fH];cases jT a c d e
    .simp
    .simp
   have p:(bif js a c d e then c7 (fH (js a c d) e+1) else c7 (fH (js a c d) e))=c7 (fH (js a c d) (e+1)):=by
    rw[fH];cases js a c d e
    .simp
    .simp
   rw[v,aa,p,aa]
   rfl) (by
   dsimp only;unfold DF;rw[aG])
  refine c8 x ?_
  dsimp only;have p:(bif c5 ((i:Int)=0) then c7 (fH (jT a c d) a.aH.length,fH (js a c d) a.aH.length) else c7 (m,q))=c7 (if(i:Int)=0 then(fH (jT a c d) a.aH.length,fH (js a c d) a.aH.length) else(m,q)):=by
   by_cases l:(i:Int)=0
   .rw[aC l,if_pos l]
   .rw[aG l,if_neg l]
  rw[p,aa,aJ];refine ae ⟨rfl,λw j=>?_⟩
  rw[iE k] at j;dsimp only;rcases e4.1 j with j |j
  .have G:=h w j;rw[if_neg (by
    intro h0;have:i=0:=by omega
    subst this;simp at j)]
   omega
  .rw[e0] at j;subst j
   split <;> omega
 .obtain⟨m,q,y⟩:=g;obtain⟨rfl,h⟩:=h;dsimp only at h⊢;unfold Fa;rw[aG];rw[gy] at h;exact ae h
def D1(b:aL)(d:List Int):Prop:=∀c,c∈b.aA->∀a,a∈c.aH->∀p,p∈d->0<=p->p<(a.an.length:Int)->fn a.an p=1099511627776
noncomputable instance (b:aL) (a:List Int):Decidable (D1 b a):=m3 _
def apy{b:List Int}{a:aM}(h:Fit b)(i:Sm a.an):As LC b a=c7 (b.any λp=>c5 ((0<=p/\p<(a.an.length:Int))/\fn a.an p≠1099511627776)):=by
 unfold As G4;have k:=jZ i;have:=fF (l:=b) (P:=λd=>CR LC d a) (p:=λp=>c5 ((0<=p/\p<(a.an.length:Int))/\fn a.an p≠1099511627776)) (f:=λe=>G9 LC b a e) h (λd j=>by
  unfold CR;rw[aJ,cF,aa]
  by_cases g:0<=d/\d<=(a.an.length:Int) -1
  .rw[aC g,gH g.1 (by omega),aa]
   congr 1
   exact decide_eq_decide.2 ⟨λc=>⟨by omega,c⟩,λc=>c.2⟩
  .rw[aG g,decide_eq_false (λc=>g (by omega))]) (λe=>rfl)
 rw[show(LC.loop (λe=>G9 LC b a e) 0).bind _=_ from this,aa,gm]
def Vo{b:aL}{e:List Int}(k:gF b)(w:Fit e):wA LC b e=c7 (c5 (D1 b e)):=by
 have z:=jZ k.1;unfold wA;have x:∀c,c∈b.aA->bO (λg=>xK LC c e g) 0=c7 (if ∀i,i<c.aH.length->(λi:Nat=>match c.aH[i]? with |some d=>e.any λp=>c5 ((0<=p/\p<(d.an.length:Int))/\fn d.an p≠1099511627776) |none=>false) i=false then .inr () else .inl ()):=λc h=>by
  have A:=jZ (k.2 c h).wh;refine oD _ _ () (λi a=>?_) ?_
  .unfold xK;rw[aC,bn,c6 a,aa,apy w ((k.2 c h).fr _ (dd a)),aa,aJ];simp only[c6 a];cases e.any λp=>c5 ((0<=p/\p<(c.aH[i].an.length:Int))/\fn c.aH[i].an p≠1099511627776) <;> rfl
  .unfold xK;rw[aG]
 have o:∀c,c∈b.aA->((∀i,i<c.aH.length->(λi:Nat=>match c.aH[i]? with |some d=>e.any λp=>c5 ((0<=p/\p<(d.an.length:Int))/\fn d.an p≠1099511627776) |none=>false) i=false)↔∀d,d∈c.aH->∀p,p∈e->0<=p->p<(d.an.length:Int)->fn d.an p=1099511627776):=λc h=>by
  constructor
  .intro f d r p m h0 l;obtain⟨i,a,rfl⟩:=e5.1 r;have:=f i a;simp only[c6 a,m1] at this;have:=this p m;rw[decide_eq_true_iff] at this;exact dv λu=>this ⟨⟨h0,l⟩,u⟩
  .intro f i a;simp only[c6 a,m1];intro p m v;obtain⟨⟨h0,l⟩,q⟩:=of_decide_eq_true v;exact q (f _ (dd a) p m h0 l)
 have t:bO (λg=>wF LC b e g) 0=c7 (if ∀i,i<b.aA.length->(λi:Nat=>match b.aA[i]? with |some c=>!c5 (∀i,i<c.aH.length->(λi:Nat=>match c.aH[i]? with |some d=>e.any λp=>c5 ((0<=p/\p<(d.an.length:Int))/\fn d.an p≠1099511627776) |none=>false) i=false) |none=>false) i=false then .inr () else .inl ()):=by
  refine oD _ _ () (λi a=>?_) ?_
  .unfold wF;rw[aC,bn,c6 a,aa,show LC.loop (λg=>xK LC b.aA[i] e g) 0=_ from x _ (dd a),aa,aJ];simp only[c6 a]
   by_cases f:∀n,n<b.aA[i].aH.length->(λy:Nat=>match b.aA[i].aH[y]? with |some d=>e.any λp=>c5 ((0<=p/\p<(d.an.length:Int))/\fn d.an p≠1099511627776) |none=>false) n=false
   .rw[if_pos f,decide_eq_true f];rfl
   .rw[if_neg f,decide_eq_false f];rfl
  .unfold wF;rw[aG]
 rw[show LC.loop (λg=>wF LC b e g) 0=_ from t,aa]
 by_cases j:D1 b e
 .rw[if_pos (λi a=>by
   simp only[c6 a];rw[decide_eq_true ((o _ (dd a)).2 (j _ (dd a)))];rfl),decide_eq_true j]
  rfl
 .rw[if_neg (λs=>j λc h=>by
   obtain⟨i,a,rfl⟩:=e5.1 h;have:=s i a;simp only[c6 a] at this;rw[Bool.not_eq_false',decide_eq_true_iff] at this;exact(o _ h).1 this),decide_eq_false j]
  rfl
def ke(a:bI):Prop:=-1125899906842624<=a.eF/\a.fk<=1125899906842624/\a.eF<=a.fk
instance (a:bI):Decidable (ke a):=by unfold ke;infer_instance
def lq(b:ak)(c:List bI):Prop:=cP b/\c.length=b.af.length/\∀a,a∈c->ke a
instance (a:ak) (b:List bI):Decidable (lq a b):=by unfold lq;infer_instance
def uW(d:ak)(l:List bI):pD LC d l=c7 (c5 (lq d l)):=by
 unfold pD;rw[ko,aa]
 by_cases c:cP d
 rotate_left
 .rw[aG c,decide_eq_false (λb=>c b.1)]
 have j:=c.2.1;rw[aC c]
 by_cases e:(l.length:Int)=(d.af.length:Int)
 rotate_left
 .rw[aG e,decide_eq_false (λb=>e (by have:=b.2.1;omega))]
 rw[aC e];have h:B8 LC l=c7 (l.any λa=>!c5 (ke a)):=by
  unfold B8 Kq;have:=fF (l:=l) (P:=λg=>EP LC g) (p:=λa=>!c5 (ke a)) (f:=λa=>Kz LC l a) (by omega) (λg i=>by
   unfold EP;rw[ew (ew rfl), <-decide_not]
   congr 1
   apply decide_eq_decide.2
   unfold ke;omega) (λa=>rfl)
  rw[show(LC.loop (λa=>Kz LC l a) 0).bind _=_ from this,aa,gm]
 rw[h,aa,ot]
 congr 1
 exact decide_eq_decide.2 ⟨λb=>⟨c,by omega,b⟩,λb=>b.2.2⟩
def Fe{a:ak}(m:cP a){i:Nat}{d:bI}(b:Bool)(p:ke d):Ok (n6 LC a (i:Int) d b) λn=>n= -1\/(0<=n/\n<=1000000000000):=by
 obtain⟨w,s,v⟩:=p;have t:=m.2.1;unfold n6
 by_cases j:i<a.af.length
 rotate_left
 .have g:(bif c5 ((i:Int)<0) then c7 true else bif c5 ((a.af.length:Int)<=(i:Int)) then c7 true else(aj a.af (i:Int)).bind λh=>c7 h.eN)=c7 true:=by
   rw[aG,aC]
  rw[g,aa];exact ae (.inl rfl)
 have l:=m.2.2.2 _ (dd j);have f:=c6 j;generalize a.af[i]=r at l f;have e:=l.2.1;have g:(bif c5 ((i:Int)<0) then c7 true else bif c5 ((a.af.length:Int)<=(i:Int)) then c7 true else(aj a.af (i:Int)).bind λh=>c7 h.eN)=c7 r.eN:=by
  rw[aG,aG,bn,f,aa]
 rw[g,aa];refine dy (λ_=>ae (.inl rfl)) (λ_=>?_)
 rw[bn,f,aa,aJ (n:=0 -d.fk),aJ (n:=0 -d.eF)];refine aD (Q:=λc=>-1125899906842624<=c.2/\c.2<=1125899906842624) (dy (λ_=>ae (by dsimp only;omega)) (λ_=>ae (by dsimp only;omega))) λc x=>?_
 refine aD (Q:=λn=>n= -1\/(0<=n/\n<=1000000000000)) (dy (λ_=>ae (.inr (by omega))) (λ_=>ae (.inl rfl))) λn k=>?_
 refine aV (λA=>?_) (λ_=>ae k)
 have z:1<=r.aj3*r.bT:=qa (by decide) (n2 e.1 e.2.2.1 (by decide) (by omega));have q:r.aj3*r.bT<=100000*1000:=n2 e.2.1 e.2.2.2 (by omega) (by decide);rw[aJ (n:=r.aj3*r.bT),aJ (n:=r.aj3*r.bT*1000),Ek (by omega),aa];have o:(r.aj3*r.bT*1000).tdiv c.2=(r.aj3*r.bT*1000)/c.2:=Int.tdiv_eq_ediv_of_nonneg (by omega);have u:0<=(r.aj3*r.bT*1000)/c.2:=pc (by omega) (by omega);have y:(r.aj3*r.bT*1000)/c.2<=r.aj3*r.bT*1000:=p0 _ (by omega);rw[o,aJ,ew rfl,aa];exact aV (λ_=>ae (.inr (by omega))) (λ_=>ae k)
def eC(c:ak)(b:List Int):Prop:=b.length=c.ai.length/\∀a,a∈b->0<=a/\a<=1099511627776
def iu:List Int->Int
 |[]=>0
 |a::b=>a+iu b
def FF:∀{l:List Int},(∀a,a∈l->0<=a/\a<=1099511627776)->0<=iu l
 |[],_=>fe _
 |a::l,b=>by
  have f:=b a (by simp);have e:=FF (l:=l) λc d=>b c (by simp[d])
  unfold iu;omega
def LQ:∀{b:List Int} {i:Nat} {c a:Int},b[i]?=c7 a->iu (b.set i c)=iu b -a+c
 |[],i,c,a,d=>by simp at d
 |e::b,0,c,a,d=>by
  have:e=a:=by simpa using d
  subst this;rw[hY];unfold iu;omega
 |e::b,i+1,c,a,d=>by
  have f:b[i]?=c7 a:=by simpa using d
  rw[l2];unfold iu;rw[LQ f];omega
def eC.set{m:ak}{c:List Int}(h:eC m c)(i:Nat){x:Int}(d:0<=x/\x<=1099511627776):eC m (c.set i x):=⟨by rw[dT];exact h.1,λe a=>by
 rcases eE a with a |rfl
 .exact h.2 e a
 .exact d⟩
def P4{c:ak}{fl:List bI}(h:lq c fl){a:List Int}(d:eC c a){i:Nat}(l:i<c.af.length){p q:Int}(g:0<=p/\p<(c.ai.length:Int))(e:0<=q/\q<(c.ai.length:Int))(b:Bool):
 Ok (yr LC a c.ai c.af fl (i:Int) p q b) λr=>eC c r.1/\((r.2=false/\r.1=a)\/(r.2=true/\iu r.1<iu a)):=by
 have k:i<fl.length:=by rw[h.2.1];exact l
 unfold yr;rw[bn,c6 k,aa];refine aD (Fe h.1 b (h.2.2 _ (dd k))) λn o=>?_
 have j:p<(a.length:Int):=by rw[d.1];exact g.2
 have f:q<(a.length:Int):=by rw[d.1];exact e.2
 have s:=d.2 _ (oR g.1 j);have m:=d.2 _ (oR e.1 f);rw[gH g.1 j,iD g.1 j,gH e.1 f,iD e.1 f];simp only[aa];rw[aJ (n:=fn a p+n),ew (ew (ew rfl)),aa];refine aV (λ_=>ae ⟨d,.inl ⟨rfl,rfl⟩⟩) (λt=>ae ⟨d.set _ (by omega),.inr ⟨rfl,?_⟩⟩)
 show iu (a.set q.toNat (fn a p+n))<iu a
 rw[LQ (iD e.1 f)];omega
def Af{b:ak}{fl:List bI}(l:lq b fl){k:List Int}(x:eC b k):Ok (rM LC k b.ai b.af fl) (eC b):=by
 have B:=l.1.2.1;unfold rM;refine aD (Q:=eC b) ?_ λr e=>ae e
 refine oa (λa:List Int×Bool=>eC b a.1) (λa=>2*(iu a.1).toNat+(if a.2 then 1 else 0)) _ (λa d=>?_) _ x
 obtain⟨aK,D⟩:=a;unfold Ms;refine dy (λs=>?_) (λ_=>ae d)
 dsimp only at s d⊢;subst s;refine aD (Q:=λf=>eC b f.1/\((f.2=false/\iu f.1<=iu aK)\/(f.2=true/\iu f.1<iu aK))) ?_ λf p=>?_
 .refine di b.af.length (λi a=>a.2.2=(i:Int)/\eC b a.1/\((a.2.1=false/\iu a.1<=iu aK)\/(a.2.1=true/\iu a.1<iu aK))) _ (λi a m d=>?_) (λa d=>?_) _ ⟨rfl,d,.inl ⟨rfl,fe _⟩⟩
  .obtain⟨k,o,z⟩:=a;obtain⟨rfl,j,c⟩:=d;dsimp only at j c⊢;have e:=(l.1.2.2.2 _ (dd m)).1;unfold I6;rw[aC,bn,c6 m,aa];generalize b.af[i]=r at e;refine aD (P4 l j m ⟨e.1,by omega⟩ ⟨e.2.2.1,by omega⟩ false) λt w=>?_
   refine aD (P4 l w.1 m ⟨e.2.2.1,by omega⟩ ⟨e.1,by omega⟩ true) λv q=>?_
   have y:(bif o then c7 true else bif t.2 then c7 true else c7 v.2)=c7 (o||(t.2||v.2)):=Fy (Fy rfl);rw[y,aa,aJ];refine ae ⟨rfl,q.1,?_⟩
   dsimp only;rcases c with⟨rfl,c⟩ |⟨rfl,c⟩ <;> rcases w.2 with⟨g,h⟩ |⟨g,h⟩ <;> rcases q.2 with⟨u,n⟩ |⟨u,n⟩ <;> rw[g,u] <;> simp only[Bool.or_false,Bool.or_true,Bool.true_or,Bool.false_or,true_and,false_and,reduceCtorEq,false_or,or_false] <;> first |(rw[n,h];exact c) |(rw[n];omega) |(rw[h] at n;omega) |omega
  .obtain⟨k,o,z⟩:=a;obtain⟨rfl,j,c⟩:=d;dsimp only at j c⊢;unfold I6;rw[aG];exact ae ⟨j,c⟩
 .have C:=FF d.2;have A:=FF p.1.2;refine ae ⟨p.1,?_⟩
  dsimp only;rcases p.2 with⟨g,h⟩ |⟨g,h⟩
  .rw[g];simp only[if_true,j5,if_false];omega
  .rw[g];simp only[if_true];omega
def ud(c:ak)(a:bQ):Prop:=cP c/\a.an.length=c.ai.length/\(0<=a.aa0/\a.aa0<=2147483648)/\∀b,b∈a.an->b=1099511627776\/(a.aa0<=b/\b<=2147483648)
instance (a:ak) (b:bQ):Decidable (ud a b):=by unfold ud;infer_instance
def QM(g:ak)(a:bQ):wB LC g a=c7 (c5 (ud g a)):=by
 unfold wB;rw[ko,aa]
 by_cases e:cP g
 rotate_left
 .rw[aG e,decide_eq_false (λb=>e b.1)]
 have o:=e.1;rw[aC e]
 by_cases h:(a.an.length:Int)=(g.ai.length:Int)
 rotate_left
 .rw[aG h,decide_eq_false (λb=>h (by have:=b.2.1;omega))]
 rw[aC h,cF,aa];have m:Ab LC a.an a=c7 (a.an.any λc=>!c5 (c=1099511627776\/(a.aa0<=c/\c<=2147483648))):=by
  unfold Ab GH;have:=fF (l:=a.an) (P:=λd=>DV LC d a) (p:=λc=>!c5 (c=1099511627776\/(a.aa0<=c/\c<=2147483648))) (f:=λi=>GU LC a.an a i) (by omega) (λd n=>by
   unfold DV;rw[cF,aa]
   by_cases b:d=1099511627776
   .rw[aG (λj=>j b),decide_eq_true (show d=1099511627776\/(a.aa0<=d/\d<=2147483648) from .inl b)];rfl
   .rw[aC b]
    congr 2
    apply decide_eq_decide.2
    exact⟨.inr,λk=>k.resolve_left b⟩) (λa=>rfl)
  rw[show(LC.loop (λi=>GU LC a.an a i) 0).bind _=_ from this,aa,gm]
 rw[m,aa,ot,fm rfl]
 congr 1
 exact decide_eq_decide.2 ⟨λb=>⟨e,by omega,b⟩,λb=>b.2.2⟩
def eC.of{m:ak}{s:bQ}(h:ud m s):eC m s.an:=⟨h.2.1,λx a=>by have:=h.2.2.2 x a;have:=h.2.2.1;omega⟩
def filled(a:bQ)(b:Int):List Int:=kM (λp=>c5 (fn a.an p<=b)) a.an.length
def Oo{a:bQ}{c:Int}(d:Sm a.an):w6 LC a c=c7 (filled a c):=by
 unfold w6 Fc;have e:=GY (n:=a.an.length) d (P:=λb=>A8 LC b a c) (p:=λp=>c5 (fn a.an p<=c)) (f:=λb=>JS LC (a.an.length:Int) a c b.1 b.2) (λi g=>by
  unfold A8;rw[gH (by omega) (by omega),aa]) (λh a=>rfl)
 rw[show LC.loop (λb:List Int×Int=>JS LC (a.an.length:Int) a c b.1 b.2) ([],0)=_ from e,aa,aa]
 rfl
def aqw(a:ak)(fl:List bI)(b:List Int)(h:Int)(v:Fit b)(s:Fit a.ai):Ok (Eh LC a fl b h) λq=>(q.2=0/\eC a q.1.an/\q.1.aa0=h/\lq a fl)\/(q.2≠0/\¬(lq a fl/\cj 0 ((a.ai.length:Int) -1) b/\0<=h/\h<=2147483648)):=by
 have B:a.ai.length<=4611686018427387904:=s;unfold Eh;rw[uW,aa,de];refine aV (λf=>?_) (λf=>ae (.inr ⟨by simp,λg=>f g.1⟩))
 rw[aJ,kw _ _ _ v,aa,de];refine aV (λe=>?_) (λe=>ae (.inr ⟨by simp,λg=>e g.2.1⟩))
 rw[cF,aa,de];refine aV (λm=>?_) (λm=>ae (.inr ⟨by simp,λg=>m g.2.2⟩))
 have A:=f.1.1;have y:=e.len (by omega);rw[B6 (by omega),aa];refine aD (Q:=eC a) ?_ λx w=>?_
 .refine di b.length (λi d=>d.2=(i:Int)/\eC a d.1) _ (λi d n j=>?_) (λd j=>?_) _ ⟨rfl,e6,λz u=>by rw[gx u];omega⟩
  .obtain⟨aK,t⟩:=d;obtain⟨rfl,c⟩:=j;dsimp only at c⊢;have o:b[i]?=c7 b[i]:=c6 n;have k:=e.mem (dd n);generalize b[i]=p at o k;have l:p<(aK.length:Int):=by rw[c.1];omega
   unfold Fg;rw[aC,bn,o,aa,gH k.1 l,aa,iD k.1 l,aa,aJ];exact ae ⟨rfl,c.set _ (by omega)⟩
  .obtain⟨aK,t⟩:=d;obtain⟨rfl,c⟩:=j;dsimp only at c⊢;unfold Fg;rw[aG];exact ae c
 .exact aD (Af f w) λr e=>ae (.inl ⟨rfl,e,rfl,f⟩)
def amZ(a:ak)(fl:List bI)(b:List Int)(h:Int)(v:Fit b)(s:Fit a.ai):Ok (EX LC a fl b h) λq=>(q.2.2=0/\eC a q.1/\q.2.1=h/\lq a fl)\/(q.2.2≠0/\¬(lq a fl/\cj 0 ((a.ai.length:Int) -1) b/\0<=h/\h<=2147483648)):=by
 have B:a.ai.length<=4611686018427387904:=s;unfold EX;rw[uW,aa,de];refine aV (λf=>?_) (λf=>ae (.inr ⟨by simp,λg=>f g.1⟩))
 rw[aJ,kw _ _ _ v,aa,de];refine aV (λe=>?_) (λe=>ae (.inr ⟨by simp,λg=>e g.2.1⟩))
 rw[cF,aa,de];refine aV (λm=>?_) (λm=>ae (.inr ⟨by simp,λg=>m g.2.2⟩))
 have A:=f.1.1;have y:=e.len (by omega);rw[B6 (by omega),aa];refine aD (Q:=eC a) ?_ λx w=>?_
 .refine di b.length (λi d=>d.2=(i:Int)/\eC a d.1) _ (λi d n j=>?_) (λd j=>?_) _ ⟨rfl,e6,λz u=>by rw[gx u];omega⟩
  .obtain⟨aK,t⟩:=d;obtain⟨rfl,c⟩:=j;dsimp only at c⊢;have o:b[i]?=c7 b[i]:=c6 n;have k:=e.mem (dd n);generalize b[i]=p at o k;have l:p<(aK.length:Int):=by rw[c.1];omega
   unfold HM;rw[aC,bn,o,aa,gH k.1 l,aa,iD k.1 l,aa,aJ];exact ae ⟨rfl,c.set _ (by omega)⟩
  .obtain⟨aK,t⟩:=d;obtain⟨rfl,c⟩:=j;dsimp only at c⊢;unfold HM;rw[aG];exact ae c
 .exact aD (Af f w) λr e=>ae (.inl ⟨rfl,e,rfl,f⟩)
def ajz(a:ak)(fl:List bI)(l:ak)(D:List bI)(m:bQ)(w:Int):Ok (uk LC a fl l D m w) λq=>((q.2=0/\eC l q.1.an/\l.ai.length=a.ai.length)\/(q.2≠0/\q.1=m)):=by
 unfold uk;rw[uW,aa,QM,aa,uW,aa,fh (fh (fh rfl)),aa];refine aV (λ_=>ae (.inr ⟨by simp,rfl⟩)) (λn=>?_)
 have k:lq a fl:=dv λf=>n (.inl f)
 have t:ud a m:=dv λf=>n (.inr (.inl f))
 have O:lq l D:=dv λf=>n (.inr (.inr (.inl f)))
 have am:(l.ai.length:Int)=a.ai.length:=dv λf=>n (.inr (.inr (.inr f)))
 rw[ew rfl,aa];refine aV (λ_=>ae (.inr ⟨by simp,rfl⟩)) (λad=>?_)
 have ai:=k.1.1;have ac:=k.1.2.1;have H:=t.2.1;have al:=t.2.2.1;have W:=eC.of t;rw[nS (by omega) (by omega),aa,dk];refine aD (Q:=eC a) ?_ λZ T=>?_
 .refine di m.an.length (λi c=>c.2=(i:Int)/\eC a c.1) _ (λi c j g=>?_) (λc g=>?_) _ ⟨rfl,by rw[e6];exact H,λC y=>by rw[gx y];omega⟩
  .obtain⟨aK,s⟩:=c;obtain⟨rfl,d⟩:=g;dsimp only at d⊢;have ag:=d.1;have y:=W.2 _ (dd j);unfold Fi;rw[aC,bn,c6 j,aa,bn,c6 (show i<aK.length by omega),aa,dk,c6 (show i<aK.length by omega),aa,aJ];exact ae ⟨rfl,d.set _ (by omega)⟩
  .obtain⟨aK,s⟩:=c;obtain⟨rfl,d⟩:=g;dsimp only at d⊢;unfold Fi;rw[aG];exact ae d
 refine aD (Q:=eC a) ?_ λP A=>?_
 .refine di a.af.length (λi c=>c.2=(i:Int)/\eC a c.1) _ (λi c j g=>?_) (λc g=>?_) _ ⟨rfl,T⟩
  .obtain⟨aK,s⟩:=c;obtain⟨rfl,d⟩:=g;dsimp only at d⊢;have h:=(k.1.2.2.2 _ (dd j)).1;have B:i<fl.length:=by rw[k.2.1];exact j
   have x:=k.2.2 _ (dd B);unfold Ii;rw[aC,bn,c6 j,aa,bn,c6 B];generalize a.af[i]=r at h;generalize fl[i]=J at x;have stp:∀(p q:Int) (o:Bool) (e:List Int),(0<=p/\p<(a.ai.length:Int))->(0<=q/\q<(a.ai.length:Int))->eC a e->Ok (((aj m.an p).bind λC=>bif c5 (C<=w) then(c7 J).bind λK=>(n6 LC a (i:Int) K o).bind λS=>c7 (c5 (0<=S)) else c7 false).bind λE=>bif E then(aj e q).bind λ_=>(e[q.toNat]?).bind λ_=>c7 (e.set q.toNat w) else c7 e) (eC a):=by
    intro p q o e Y u v;have z:q<(e.length:Int):=by rw[v.1];exact u.2
    rw[gH Y.1 (by omega),aa,aa];refine aD (Q:=λ_=>True) (aV (λ_=>aD (Fe k.1 o x) λ_ _=>ae trivial) (λ_=>ae trivial)) λb _=>?_
    rw[gH u.1 z,aa,iD u.1 z,aa];exact dy (λ_=>ae (v.set _ (by omega))) (λ_=>ae v)
   obtain⟨L,F,V⟩:=stp r.an r.To false aK ⟨h.1,by omega⟩ ⟨h.2.2.1,by omega⟩ d;obtain⟨ah,N,G⟩:=stp r.To r.an true L ⟨h.2.2.1,by omega⟩ ⟨h.1,by omega⟩ V;obtain⟨af,U,M⟩:=qQ F;obtain⟨ab,X,R⟩:=qQ N;rw[U,aa,M,aa,X,aa,R,aa,aJ];exact ae ⟨rfl,G⟩
  .obtain⟨aK,s⟩:=c;obtain⟨rfl,d⟩:=g;dsimp only at d⊢;unfold Ii;rw[aG];exact ae d
 have I:eC l P:=⟨by rw[A.1];omega,A.2⟩;exact aD (Af O I) λr h=>ae (.inl ⟨rfl,h,by omega⟩)
def akv(a:ak)(fl:List bI)(l:ak)(w:List bI)(m:bQ)(x:Int):Ok (yg LC w a fl l m x) λq=>q.1=w/\((q.2.2=0/\eC l q.2.1.an/\l.ai.length=a.ai.length)\/(q.2.2≠0/\q.2.1=m)):=by
 unfold yg;rw[uW,aa,QM,aa,uW,aa,fh (fh (fh rfl)),aa];refine aV (λ_=>ae ⟨rfl,(.inr ⟨by simp,rfl⟩)⟩) (λn=>?_)
 have k:lq a fl:=dv λf=>n (.inl f)
 have t:ud a m:=dv λf=>n (.inr (.inl f))
 have O:lq l w:=dv λf=>n (.inr (.inr (.inl f)))
 have am:(l.ai.length:Int)=a.ai.length:=dv λf=>n (.inr (.inr (.inr f)))
 rw[ew rfl,aa];refine aV (λ_=>ae ⟨rfl,(.inr ⟨by simp,rfl⟩)⟩) (λad=>?_)
 have ai:=k.1.1;have ac:=k.1.2.1;have H:=t.2.1;have al:=t.2.2.1;have W:=eC.of t;rw[nS (by omega) (by omega),aa,dk];refine aD (Q:=eC a) ?_ λZ T=>?_
 .refine di m.an.length (λi c=>c.2=(i:Int)/\eC a c.1) _ (λi c j g=>?_) (λc g=>?_) _ ⟨rfl,by rw[e6];exact H,λD z=>by rw[gx z];omega⟩
  .obtain⟨aK,s⟩:=c;obtain⟨rfl,d⟩:=g;dsimp only at d⊢;have ag:=d.1;have z:=W.2 _ (dd j);unfold Kc;rw[aC,bn,c6 j,aa,bn,c6 (show i<aK.length by omega),aa,dk,c6 (show i<aK.length by omega),aa,aJ];exact ae ⟨rfl,d.set _ (by omega)⟩
  .obtain⟨aK,s⟩:=c;obtain⟨rfl,d⟩:=g;dsimp only at d⊢;unfold Kc;rw[aG];exact ae d
 refine aD (Q:=eC a) ?_ λP B=>?_
 .refine di a.af.length (λi c=>c.2=(i:Int)/\eC a c.1) _ (λi c j g=>?_) (λc g=>?_) _ ⟨rfl,T⟩
  .obtain⟨aK,s⟩:=c;obtain⟨rfl,d⟩:=g;dsimp only at d⊢;have h:=(k.1.2.2.2 _ (dd j)).1;have C:i<fl.length:=by rw[k.2.1];exact j
   have y:=k.2.2 _ (dd C);unfold Jl;rw[aC,bn,c6 j,aa,bn,c6 C];generalize a.af[i]=r at h;generalize fl[i]=J at y;have stp:∀(p q:Int) (o:Bool) (e:List Int),(0<=p/\p<(a.ai.length:Int))->(0<=q/\q<(a.ai.length:Int))->eC a e->Ok (((aj m.an p).bind λD=>bif c5 (D<=x) then(c7 J).bind λK=>(n6 LC a (i:Int) K o).bind λS=>c7 (c5 (0<=S)) else c7 false).bind λE=>bif E then(aj e q).bind λ_=>(e[q.toNat]?).bind λ_=>c7 (e.set q.toNat x) else c7 e) (eC a):=by
    intro p q o e Y u v;have A:q<(e.length:Int):=by rw[v.1];exact u.2
    rw[gH Y.1 (by omega),aa,aa];refine aD (Q:=λ_=>True) (aV (λ_=>aD (Fe k.1 o y) λ_ _=>ae trivial) (λ_=>ae trivial)) λb _=>?_
    rw[gH u.1 A,aa,iD u.1 A,aa];exact dy (λ_=>ae (v.set _ (by omega))) (λ_=>ae v)
   obtain⟨L,F,V⟩:=stp r.an r.To false aK ⟨h.1,by omega⟩ ⟨h.2.2.1,by omega⟩ d;obtain⟨ah,N,G⟩:=stp r.To r.an true L ⟨h.2.2.1,by omega⟩ ⟨h.1,by omega⟩ V;obtain⟨af,U,M⟩:=qQ F;obtain⟨ab,X,R⟩:=qQ N;rw[U,aa,M,aa,X,aa,R,aa,aJ];exact ae ⟨rfl,G⟩
  .obtain⟨aK,s⟩:=c;obtain⟨rfl,d⟩:=g;dsimp only at d⊢;unfold Jl;rw[aG];exact ae d
 have I:eC l P:=⟨by rw[B.1];omega,B.2⟩;exact aD (Af O I) λr h=>ae ⟨rfl,(.inl ⟨rfl,h,by omega⟩)⟩
def ia(a:Int):Prop:=0<=a/\a<=2147483648
instance (a:Int):Decidable (ia a):=by unfold ia;infer_instance
def RA(a:cy):Prop:=(ia a.abv/\ia a.eB/\ia a.ku/\ia a.mZ)/\(1<=a.anS/\a.anS<=4)/\(1<=a.pB/\a.pB<=2147483648)/\(if a.sd=true then a.l9=0 else(a.ku<=a.l9/\a.l9<=2147483648)/\a.uV=false)
instance (a:cy):Decidable (RA a):=by unfold RA;infer_instance
def ahx(a:cy):Dg LC a=c7 (c5 (RA a)):=by
 unfold Dg;have m:bO (λk=>xP LC a k) 0=c7 (if ∀i,i<([a.abv,a.eB,a.ku,a.mZ]:List Int).length->(λi:Nat=>!c5 (ia (([a.abv,a.eB,a.ku,a.mZ]:List Int).getD i 0))) i=false then .inr () else .inl ()):=by
  refine oD ([a.abv,a.eB,a.ku,a.mZ]:List Int).length _ () (λi d=>?_) (by unfold xP;rfl)
  have n:i<4:=d;unfold xP;rw[aC,uu d,aa,cF,aa,aJ];show(bif (!c5 (ia _)) then _ else _)=c7 (bif !c5 (ia _) then _ else _)
  cases c5 (ia ([a.abv,a.eB,a.ku,a.mZ].getD i 0)) <;> rfl
 rw[show LC.loop (λk=>xP LC a k) 0=_ from m,aa,cF,aa,cF,aa,cF,aa,lA,fh rfl,aa]
 by_cases c:ia a.abv/\ia a.eB/\ia a.ku/\ia a.mZ
 .rw[if_pos (λi d=>by
   have d:i<4:=d;have:i=0\/i=1\/i=2\/i=3:=by omega
   have h:∀{p:Prop} [Decidable p],p->(!decide p)=false:=λb=>by rw[decide_eq_true b];rfl
   rcases this with rfl |rfl |rfl |rfl
   .exact h c.1
   .exact h c.2.1
   .exact h c.2.2.1
   .exact h c.2.2.2),ej]
  by_cases e:(1<=a.anS/\a.anS<=4)/\1<=a.pB/\a.pB<=2147483648
  .rw[aG];cases f:a.sd with
   |true=>
    simp only[cond_true]
    congr 1
    exact decide_eq_decide.2 ⟨λb=>⟨c,e.1,e.2,by rw[if_pos f];exact b⟩,λb=>by have:=b.2.2.2;rw[if_pos f] at this;exact this⟩
   |false=>
    simp only[cond_false]
    by_cases g:a.ku<=a.l9/\a.l9<=2147483648
    .rw[aC g]
     congr 1
     cases l:a.uV with
     |true=>exact(decide_eq_false (show ¬RA a from λb=>by have:=b.2.2.2;rw[if_neg (by rw[f];simp),l] at this;exact absurd this.2 (by simp))).symm
     |false=>exact(decide_eq_true (show RA a from⟨c,e.1,e.2,by rw[if_neg (by rw[f];simp)];exact⟨g,l⟩⟩)).symm
    .rw[aG g,decide_eq_false (show ¬RA a from λb=>by have:=b.2.2.2;rw[if_neg (by rw[f];simp)] at this;exact g this.1)]
  .rw[aC,decide_eq_false (show ¬RA a from λb=>e ⟨b.2.1,b.2.2.1⟩)]
 .rw[if_neg (λj=>c ⟨by simpa using j 0 (by simp),by simpa using j 1 (by simp),by simpa using j 2 (by simp),by simpa using j 3 (by simp)⟩),ft,decide_eq_false (show ¬RA a from λb=>c b.1)]
def fU(a:cy)(b c:Int):Prop:=a.abv<b\/a.abv=b/\a.eB<c
instance (a:cy) (c b:Int):Decidable (fU a c b):=by unfold fU;infer_instance
def fX(a:cy)(c b:Int):Prop:=a.abv=c/\a.eB=b
def jz(a b:cy):Prop:=fU a b.abv b.eB
instance (a b:cy):Decidable (jz a b):=by unfold jz;infer_instance
def Ia(c:cy)(d a:Int):∃h,rK LC c ⟨d,a⟩=c7 h/\(h<0↔fU c d a)/\(h=0↔fX c d a):=by
 unfold rK;dsimp only;rw[G1,aa,G1,aa];have k:CY LC [kG c.abv d,kG c.eB a]=c7 (if kG c.abv d≠0 then kG c.abv d else kG c.eB a):=by
  unfold CY;generalize kG c.abv d=e;generalize kG c.eB a=b
  by_cases f:e=0
  .rw[if_neg (λj=>j f)]
   by_cases i:b=0
   .subst f i;rw[show LC.loop (λa=>qF LC [0,0] a) 0=c7 (.inr ()) from(iO (a':=1) rfl).trans ((iO (a':=2) rfl).trans (fZ rfl))]
    rfl
   .subst f;have g:qF LC [0,b] 1=c7 (.inr (.inl b)):=by
     unfold qF;rw[aC (by simp),show aj [0,b] 1=c7 b from rfl,aa,aC i]
    rw[show LC.loop (λa=>qF LC [0,b] a) 0=c7 (.inl b) from(iO (a':=1) rfl).trans (fZ g)]
    rfl
  .rw[if_pos f];have g:qF LC [e,b] 0=c7 (.inr (.inl e)):=by
    unfold qF;rw[aC (by simp),show aj [e,b] 0=c7 e from rfl,aa,aC f]
   rw[show LC.loop (λa=>qF LC [e,b] a) 0=c7 (.inl e) from fZ g]
   rfl
 rw[k,aa];refine⟨_,rfl,?_,?_⟩
 .unfold fU kG
  split <;> split <;> (try split) <;> (try split) <;> omega
 .unfold fX kG
  split <;> split <;> (try split) <;> (try split) <;> omega
def VA(a:List cy):Prop:=a.length<=64/\(∀b∈a,RA b)/\a.Pairwise jz
noncomputable instance (a:List cy):Decidable (VA a):=m3 _
def Rl{e:Type}{R:e->e->Prop}(tr:∀c b d,R c b->R b d->R c d):∀a:List e,(∀i (f:i+1<a.length),R a[i] a[i+1])->a.Pairwise R
 |[],_=>.nil
 |[c],_=>List.pairwise_singleton R c
 |c::b::a,f=>by
  have j:=Rl tr (b::a) λi k=>f (i+1) (by simpa using k)
  have h:R c b:=f 0 (by simp);refine l4.2 ⟨λd g=>?_,j⟩
  rcases kl.1 g with rfl |g
  .exact h
  .exact tr _ _ _ h ((l4.1 j).1 d g)
def aka(a:List cy):yE LC a=c7 (c5 (VA a)):=by
 unfold yE
 by_cases k:64<(a.length:Int)
 .rw[aC k,decide_eq_false (λe=>by have:=e.1;omega)]
 rw[aG k];have p:bO (λj=>vH LC a j) 0=c7 (if ∀i,i<a.length->(λi:Nat=>match a[i]? with |some d=>c5 (¬RA d)||(match (if 0<i then a[i -1]? else j4) with |some b=>c5 (¬fU b d.abv d.eB) |none=>false) |none=>false) i=false then .inr () else .inl ()):=by
  refine oD _ _ () (λi c=>?_) (by unfold vH;rw[aG])
  unfold vH;rw[aC,bn,c6 c,aa,ahx,aa,aJ (n:=(i:Int)+1)];simp only[c6 c];have g:(bif c5 (0<(i:Int)) then(aj a (c3 c4 ((i:Int) -1))).bind λq=>(rK LC q (kC.mk a[i].abv a[i].eB)).bind λt=>c7 (c5 (0<=t)) else c7 false)=c7 (match (if 0<i then a[i -1]? else j4) with |some b=>c5 (¬fU b a[i].abv a[i].eB) |none=>false):=by
   by_cases h0:0<i
   .obtain⟨r,m,g,w⟩:=Ia (a[i -1]'(by omega)) a[i].abv a[i].eB;rw[aC,aJ,show(i:Int) -1=((i -1:Nat):Int) by omega,bn,c6 (show i -1<a.length by omega),aa,m,aa,if_pos h0];dsimp only
    congr 1
    apply decide_eq_decide.2
    rw[<-g];omega
   .rw[aG,if_neg h0]
  rw[g,M5 rfl,aa, <-decide_not];cases (c5 (¬RA a[i])||(match (if 0<i then a[i -1]? else j4) with |some b=>c5 (¬fU b a[i].abv a[i].eB) |none=>false)) <;> rfl
 rw[show LC.loop (λj=>vH LC a j) 0=_ from p,aa];have l:(∀i,i<a.length->(λi:Nat=>match a[i]? with |some d=>c5 (¬RA d)||(match (if 0<i then a[i -1]? else j4) with |some b=>c5 (¬fU b d.abv d.eB) |none=>false) |none=>false) i=false)↔VA a:=by
  constructor
  .intro e;refine⟨by omega,λd u=>?_,Rl (R:=jz) (λd b r k v=>by unfold jz fU at*;omega) a λi c=>?_⟩
   .obtain⟨i,c,rfl⟩:=e5.1 u;have:=e i c;simp only[c6 c,j2] at this;exact dv (of_decide_eq_false this.1)
   .have:=e (i+1) c;simp only[c6 c,j2,Nat.zero_lt_succ,if_true,o4,c6 (show i<a.length by omega)] at this;exact dv (of_decide_eq_false this.2)
  .rintro⟨_,o,s⟩ i c;simp only[c6 c,j2];refine⟨decide_eq_false λh=>h (o _ (dd c)),?_⟩
   by_cases h0:0<i
   .rw[if_pos h0,c6 (show i -1<a.length by omega)];exact decide_eq_false λh=>h (h7.1 s (i -1) i (by omega) c (by omega))
   .rw[if_neg h0]
 by_cases f:VA a
 .rw[if_pos (l.2 f),decide_eq_true f];rfl
 .rw[if_neg (λe=>f (l.1 e)),decide_eq_false f];rfl
def alS(d:List cy)(f g:Int)(J:d.Pairwise jz)(N:d.length<=64):Ok (Ec LC d ⟨f,g⟩) λq=>∃n:Nat,q.1=(n:Int)/\n<=d.length/\(∀(a:Nat) c,a<n->d[a]?=c7 c->fU c f g)/\(∀(a:Nat) c,n<=a->d[a]?=c7 c->¬fU c f g)/\(q.2=true->∃c,d[n]?=c7 c/\fX c f g)/\(q.2=false->∀c,d[n]?=c7 c->¬fX c f g):=by
 have z:∀(i a:Nat) c b,i<a->d[i]?=c7 c->d[a]?=c7 b->fU b f g->fU c f g:=λi a c b F e l j=>by
  obtain⟨K,rfl⟩:=dt.1 e;obtain⟨G,rfl⟩:=dt.1 l;have:=h7.1 J i a K G F;unfold jz fU at*;omega
 unfold Ec;refine aD (Q:=λp=>∃n:Nat,p=(n:Int)/\n<=d.length/\(∀(a:Nat) c,a<n->d[a]?=c7 c->fU c f g)/\(∀(a:Nat) c,n<=a->d[a]?=c7 c->¬fU c f g)) ?_ λp v=>?_
 .refine oa (λk:Int×Int=>∃i a:Nat,k=((i:Int),(a:Int))/\i<=a/\a<=d.length/\(∀(h:Nat) c,h<i->d[h]?=c7 c->fU c f g)/\(∀(h:Nat) c,a<=h->d[h]?=c7 c->¬fU c f g)) (λk=>(k.2 -k.1).toNat) _ (λk L=>?_) _ ⟨0,d.length,rfl,p7 _,h9 _,λh c j=>by omega,λh c j e=>by have:=(dt.1 e).1;omega⟩
  obtain⟨i,a,rfl,O,B,x,C⟩:=L;dsimp only;unfold Rt;refine aV (λM=>?_) (λM=>?_)
  .have o:(i+a)/2<d.length:=by omega
   have I:iN .u64 (hS.wrap (c3 c4 ((i:Int)+(a:Int)))) 1=c7 (((i+a)/2:Nat):Int):=by
    rw[aJ (n:=(i:Int)+a),mB (n:=(i:Int)+a) (by omega) (by omega),AD (by omega),show(2:Int)^ (min (1:Int).toNat hS.bits)=2 from rfl,ih _ (by omega)]
    congr 1
   obtain⟨k,s,u,w⟩:=Ia d[(i+a)/2] f g;rw[I,aa,aJ (n:=(((i+a)/2:Nat):Int)) (by omega) (by omega),bn,c6 o,aa,s,aa];refine aD (Q:=λp=>(k<0/\p=((((i+a)/2+1:Nat):Int),(a:Int)))\/(¬k<0/\p=((i:Int),(((i+a)/2:Nat):Int)))) (aV (λm=>?_) (λm=>ae (.inr ⟨m,rfl⟩))) λp v=>?_
   .rw[aJ];exact ae (.inl ⟨m,rfl⟩)
   .rcases v with⟨m,rfl⟩ |⟨m,rfl⟩
    .refine ae ⟨⟨(i+a)/2+1,a,rfl,by omega,B,λh c H e=>?_,C⟩,?_⟩
     .have l:=u.1 m
      by_cases t:h=(i+a)/2
      .subst t;rw[c6 o] at e;injection e with e
       subst e;exact l
      .exact z h _ c _ (by omega) e (c6 o) l
     .dsimp only;omega
    .refine ae ⟨⟨i,(i+a)/2,rfl,by omega,by omega,x,λh c H e l=>?_⟩,?_⟩
     .have A:¬fU d[(i+a)/2] f g:=λj=>m (u.2 j)
      by_cases t:h=(i+a)/2
      .subst t;rw[c6 o] at e;injection e with e
       subst e;exact A l
      .exact A (z _ h _ c (by omega) (c6 o) e l)
     .dsimp only;omega
  .have:i=a:=by omega
   subst this;exact ae ⟨i,rfl,B,x,C⟩
 .obtain⟨n,rfl,E,y,D⟩:=v
  by_cases r:n<d.length
  .obtain⟨k,s,u,w⟩:=Ia d[n] f g;rw[aC,bn,c6 r,aa,s,aa];refine ae ⟨n,rfl,E,y,D,λj=>⟨_,c6 r,w.1 (of_decide_eq_true j)⟩,λj c e=>?_⟩
   rw[c6 r] at e;injection e with e
   subst e;exact λo=>of_decide_eq_false j (w.2 o)
  .rw[aG];exact ae ⟨n,rfl,E,y,D,λj=>by simp at j,λ_ c e=>absurd (dt.1 e).1 r⟩
def ak8{d:List cy}(o:d.Pairwise jz){c:Nat}{f b:cy}(n:d[c]?=c7 f)(a:b.abv=f.abv/\b.eB=f.eB):(d.set c b).Pairwise jz:=by
 refine h7.2 λi k g h m=>?_
 rw[dT] at g h;have e:=h7.1 o i k g h m;obtain⟨p,rfl⟩:=dt.1 n;rw[p4,p4];unfold jz fU at*
 by_cases j:c=i
 .subst j;rw[if_pos rfl,if_neg (by omega),a.1,a.2];exact e
 .rw[if_neg j]
  by_cases l:c=k
  .subst l;rw[if_pos rfl,a.1,a.2];exact e
  .rw[if_neg l];exact e
def ZH{c:List cy}(k:c.Pairwise jz){a:Nat}{b:cy}(w:a<=c.length)(t:∀(d:Nat) e,d<a->c[d]?=c7 e->fU e b.abv b.eB)(l:∀(d:Nat) e,a<=d->c[d]?=c7 e->¬fU e b.abv b.eB)(s:∀e,c[a]?=c7 e->¬fX e b.abv b.eB):(c.take a++[b]++c.drop a).Pairwise jz:=by
 rw[h8,List.pairwise_append];have n:∀g,g∈c.drop a->jz b g:=λg h=>by
  obtain⟨d,j,rfl⟩:=e5.1 h;rw[h5] at j;have f:c[a+d]?=c7 ((c.drop a)[d]'(by rw[h5];exact j)):=by rw[List.getElem_drop];exact c6 (by omega)
  have o:=l (a+d) _ (by omega) f;generalize (c.drop a)[d]'(by rw[h5];exact j)=g at f o;have h0:=s _ (c6 (show a<c.length by omega));have v:=l a _ (h9 _) (c6 (show a<c.length by omega))
  by_cases r:d=0
  .subst r;rw[qb,c6 (show a<c.length by omega)] at f;injection f with f
   subst f;unfold jz fU fX at*;omega
  .obtain⟨p,rfl⟩:=dt.1 f;have:=h7.1 k a (a+d) (by omega) p (by omega);unfold jz fU fX at*;omega
 refine⟨k.sublist (List.take_sublist a c),l4.2 ⟨n,k.sublist (List.drop_sublist a c)⟩,λe u g h=>?_⟩
 obtain⟨i,m,rfl⟩:=e5.1 u;rw[ea] at m;have q:jz ((c.take a)[i]'(by rw[ea];exact m)) b:=by
  refine t i _ (by omega) ?_
  rw[o8];exact c6 (by omega)
 rcases kl.1 h with rfl |h
 .exact q
 .have:=n g h;unfold jz fU at*;omega
def apS(d:List cy)(h j p g:Int):Ok (rk LC d h j p g) λq=>(q.2≠0/\q.1=d)\/(q.2=0/\VA q.1/\(∃c,c∈q.1/\fX c h j)/\∀b,b∈d->∃c,c∈q.1/\fX c b.abv b.eB):=by
 unfold rk;rw[aka,aa,de];refine aV (λM=>?_) (λ_=>ae (.inl ⟨by simp,rfl⟩))
 obtain⟨r,o,w⟩:=M;rw[cF,aa,cF,aa,cF,aa,lA,fh (fh rfl),aa];refine aV (λ_=>ae (.inl ⟨by simp,rfl⟩)) (λk=>?_)
 have I:ia h:=by unfold ia;omega
 have E:ia j:=by unfold ia;omega
 have B:1<=p/\p<=4:=by omega
 refine aD (alS d h j w r) λq O=>?_
 obtain⟨e,J,S,U,P,z,F⟩:=O;obtain⟨W,s⟩:=q;dsimp only at J z F⊢;subst J;rw[cF,aa];have G:s=true->e<d.length:=λk=>by obtain⟨c,a,_⟩:=z k;exact(dt.1 a).1
 by_cases x:0<=g/\g<=2147483648
 rotate_left
 .rw[decide_eq_false x];exact ae (.inl ⟨by simp,rfl⟩)
 have D:ia g:=x;rw[decide_eq_true x];simp only[ey,cond_false];have bad:∃b:Bool,(bif s then(aj d (e:Int)).bind λR=>bif c5 (g<R.ku) then c7 true else(aj d (e:Int)).bind λN=>c7 (c5 (g<N.l9)) else c7 false)=c7 b:=by
  cases s with
  |false=>exact⟨_,rfl⟩
  |true=>
   have n:=G rfl;simp only[cond_true];rw[bn,c6 n,aa,aa,ew rfl];exact⟨_,rfl⟩
 obtain⟨b,L⟩:=bad;rw[L,aa];refine dy (λ_=>ae (.inl ⟨by simp,rfl⟩)) (λ_=>?_)
 cases s with
 |false=>
  simp only[k7,cond_true];refine aV (λ_=>ae (.inl ⟨by simp,rfl⟩)) (λX=>?_)
  rw[wE (cX r (by decide)),aa];have t:D3 LC d [cy.mk h j p g 0 true false 0 1] (e:Int)=c7 (d.take e++[cy.mk h j p g 0 true false 0 1]++d.drop e):=by
   unfold D3 B2;rw[if_pos ⟨by omega,by omega,rfl⟩,dm (by decide) (by omega),aa,dk]
  rw[t,aa];refine ae (.inr ⟨rfl,⟨?_,λc a=>?_,ZH w S U P (F rfl)⟩,⟨cy.mk h j p g 0 true false 0 1,by simp,rfl,rfl⟩,λc a=>⟨c,?_,rfl,rfl⟩⟩)
  .simp only[ef,ea,h5,eH,hL];omega
  .rcases e4.1 a with a |a
   .rcases e4.1 a with a |a
    .exact o c (List.mem_of_mem_take a)
    .rw[e0] at a;subst a;exact⟨⟨I,E,D,by show(0:Int)<=0/\(0:Int)<=2147483648;omega⟩,B,⟨by show(1:Int)<=1;omega,by show(1:Int)<=2147483648;omega⟩,by simp⟩
   .exact o c (List.mem_of_mem_drop a)
  .have:c∈d.take e++d.drop e:=by rw[List.take_append_drop];exact a
   rcases e4.1 this with k |k
   .simp[k]
   .simp[k]
 |true=>
  simp only[ey,cond_false];obtain⟨c,a,A⟩:=z rfl;have n:=G rfl;have T:=o c (fC a);rw[wE (cX r (by decide)),aa,bn,a,aa,dk,a];simp only[aa];have fin:∀f:cy,f.abv=c.abv/\f.eB=c.eB->RA f->Ok (c7 (d.set e f,(0:Int))) λq=>(q.2≠0/\q.1=d)\/(q.2=0/\VA q.1/\(∃c,c∈q.1/\fX c h j)/\∀b,b∈d->∃c,c∈q.1/\fX c b.abv b.eB):=λf m V=>by
   refine ae (.inr ⟨rfl,⟨by rw[dT];exact r,λK l=>?_,ak8 w a m⟩,⟨f,qq n f,by unfold fX at*;rw[m.1,m.2];exact A⟩,λK l=>?_⟩)
   .rcases eE l with l |rfl
    .exact o K l
    .exact V
   .obtain⟨i,H,rfl⟩:=e5.1 l
    by_cases t:e=i
    .subst t;rw[c6 H] at a;injection a with a
     exact⟨f,qq n f,by unfold fX;rw[m.1,m.2,a];exact⟨rfl,rfl⟩⟩
    .exact⟨d[i],hQ.2 ⟨i,by rw[hz t];exact c6 H⟩,rfl,rfl⟩
  obtain⟨u,Q,C,y⟩:=T;rw[de];refine dy (λv=>?_) (λv=>?_)
  .refine aV (λY=>?_) (λ_=>?_)
   .rw[gv n,aa,set_set];rw[if_pos v] at y;exact fin _ ⟨rfl,rfl⟩ ⟨⟨u.1,u.2.1,u.2.2.1,by unfold ia;dsimp only;omega⟩,B,C,by rw[if_pos v];exact y⟩
   .have:=fin c ⟨rfl,rfl⟩ ⟨u,Q,C,y⟩;rw[ou a] at this;exact this
  .rw[aJ];exact fin _ ⟨A.1.symm,A.2.symm⟩ ⟨⟨I,E,D,by unfold ia;dsimp only;omega⟩,B,⟨by dsimp only;omega,by dsimp only;omega⟩,by simp⟩
def uJ(a:List Int):Prop:=(1<=(a.length:Int)/\(a.length:Int)<=12)/\cj 0 127 a
instance (a:List Int):Decidable (uJ a):=by unfold uJ;infer_instance
def Nq{a:List Int}(b:Fit a):xa LC a=c7 (c5 (uJ a)):=by
 unfold xa;rw[cF,aa,kw _ _ _ b,aa];exact fm rfl
def ff(b:bA):Prop:=uJ b.af/\b.aa2.length=b.af.length/\(∀a,a∈b.aa2->0<=a/\a<=2)/\(b.Out=true->∀a,a∈b.aa2->a=2)
instance (a:bA):Decidable (ff a):=by unfold ff;infer_instance
def QJ{a:bA}(e:Fit a.aa2):yh LC a=c7 (c5 (∀b,b∈a.aa2->b=2)):=by
 unfold yh IU JN;have:=fF (l:=a.aa2) (P:=λd=>CE LC d) (p:=λb=>!c5 (b=2)) (f:=λc=>JW LC a.aa2 c) e (λd g=>by
  unfold CE;rw[<-decide_not]) (λc=>rfl)
 rw[show(LC.loop (λc=>JW LC a.aa2 c) 0).bind _=_ from this,aa,gm,aa,ot]
def tA{a:bA}(j:Fit a.af):oL LC a=c7 (c5 (ff a)):=by
 unfold oL;rw[Nq j,aa]
 by_cases e:uJ a.af
 rotate_left
 .rw[aG e,decide_eq_false (λb=>e b.1)]
 rw[aC e]
 by_cases h:(a.aa2.length:Int)=(a.af.length:Int)
 rotate_left
 .rw[aG h,decide_eq_false (λb=>h (by have:=b.2.1;omega))]
 have i:Fit a.aa2:=by show a.aa2.length<=_;have:a.af.length<=_:=j;omega
 have n:zw LC a.aa2=c7 (a.aa2.any λc=>!c5 (0<=c/\c<=2)):=by
  unfold zw F6;have:=fF (l:=a.aa2) (P:=λm=>zz LC m) (p:=λc=>!c5 (0<=c/\c<=2)) (f:=λg=>It LC a.aa2 g) i (λm o=>by
   unfold zz;rw[cF,aa]) (λg=>rfl)
  rw[show(LC.loop (λg=>It LC a.aa2 g) 0).bind _=_ from this,aa,gm]
 rw[aC h,n,aa,ot]
 by_cases d:∀c,c∈a.aa2->0<=c/\c<=2
 rotate_left
 .rw[aG d,decide_eq_false (λb=>d b.2.2.1)]
 rw[aC d,QJ i,aa];cases k:a.Out with
 |false=>simp only[k7,cond_true];rw[decide_eq_true (show ff a from⟨e,by omega,d,λb=>by rw[k] at b;cases b⟩)]
 |true=>
  simp only[ey,cond_false]
  congr 1
  exact decide_eq_decide.2 ⟨λb=>⟨e,by omega,d,λ_=>b⟩,λb=>b.2.2.2 k⟩
def ff.sm{k:bA}(h:ff k):Sm k.af/\Sm k.aa2:=⟨cX (n:=12) (by have:=h.1.1;omega) (by decide),cX (n:=12) (by have:=h.1.1;have:=h.2.1;omega) (by decide)⟩
def Dx{k:bA}(i a b:Int)(j:Fit k.af):Ok (qO LC k i a b) λq=>(q.2≠0/\q.1=k)\/(q.2=0/\ff k/\0<=i/\k.aa2[i.toNat]?=c7 a/\k.Out=false/\q.1=⟨k.af,k.aa2.set i.toNat b,false⟩):=by
 unfold qO;rw[tA j,aa,de];refine aV (λc=>?_) (λ_=>ae (.inl ⟨by simp,rfl⟩))
 have m:=c.1.1;have l:=c.2.1;rw[aJ,cF,aa,de];refine aV (λf=>?_) (λ_=>ae (.inl ⟨by simp,rfl⟩))
 have e:k.aa2[i.toNat]?=c7 (k.aa2[i.toNat]'(by omega)):=c6 (by omega);generalize k.aa2[i.toNat]'(by omega)=v at e;have g:aj k.aa2 i=c7 v:=by unfold aj;rw[if_pos f.1];exact e
 unfold IL;rw[g,aa,bV c.sm.1,aa,bV c.sm.2,aa,aa];dsimp only;rw[g,aa,e,aa]
 by_cases d:v≠a
 .rw[aC d,aa];exact ae (.inl ⟨by simp,rfl⟩)
 .rw[aG d,aa];refine dy (λ_=>ae (.inl ⟨by simp,rfl⟩)) (λh=>ae (.inr ⟨rfl,c,f.1,?_,h,by rw[h]⟩))
  rw[eo.1 d]
def ff.move{k:bA}(h:ff k){i:Nat}{b:Int}(c:0<=b/\b<=2):ff ⟨k.af,k.aa2.set i b,false⟩:=⟨h.1,by show(k.aa2.set i b).length=_;rw[dT];exact h.2.1,λn a=>by
 rcases eE (show n∈k.aa2.set i b from a) with a |rfl
 .exact h.2.2.1 n a
 .exact c,λh=>by cases h⟩
def ap1{k:bA}(d:Fit k.af):Ok (Cu LC k) λq=>(q.2≠0/\q.1=k)\/(q.2=0/\ff k/\k.Out=false/\(∀a,a∈k.aa2->a=2)/\q.1=⟨k.af,k.aa2,true⟩):=by
 unfold Cu;refine aD (Q:=λq=>(q.2≠0/\q.1=k)\/(q.2=0/\ff k/\k.Out=false/\(∀a,a∈k.aa2->a=2)/\q.1=⟨k.af,k.aa2,true⟩)) ?_ λq c=>ae c
 unfold xi;rw[tA d,aa,de];refine aV (λb=>?_) (λ_=>ae (.inl ⟨by simp,rfl⟩))
 unfold EA;rw[QJ (by show k.aa2.length<=_;have:=jZ b.sm.2;omega),bV b.sm.1,bV b.sm.2];simp only[aa];cases f:k.Out with
 |true=>exact ae (.inl ⟨by simp,rfl⟩)
 |false=>
  simp only[cond_true,show(false==true)=false from rfl,cond_false,aa,de];exact aV (λe=>ae (.inr ⟨rfl,b,by simp,e,rfl⟩)) (λ_=>ae (.inl ⟨by simp,rfl⟩))
def Zw{k:bA}(c:Fit k.af):Ok (vQ LC k) λq=>(q.2≠0/\q.1=k)\/(q.2=0/\ff k/\q.1=⟨k.af,k.aa2,false⟩):=by
 unfold vQ;refine aD (Q:=λq=>(q.2≠0/\q.1=k)\/(q.2=0/\ff k/\q.1=⟨k.af,k.aa2,false⟩)) ?_ λq b=>ae b
 unfold xi;rw[tA c,aa,de];refine aV (λa=>?_) (λ_=>ae (.inl ⟨by simp,rfl⟩))
 unfold EA;rw[bV a.sm.1,bV a.sm.2];simp only[aa];cases d:k.Out with
 |false=>exact ae (.inl ⟨by simp,rfl⟩)
 |true=>
  simp only[show(true==false)=false from rfl,cond_false,aa];exact ae (.inr ⟨rfl,a,rfl⟩)
def O5{k:bA}(v:k.af.length<=100)(s:k.aa2.length<=100):Ok (yA LC k) λe=>e.length<=k.af.length/\∀r,r∈e↔∃(i:Nat) (n:Int),k.af[i]?=c7 r/\k.aa2[i]?=c7 n/\n≠0:=by
 unfold yA;refine aD (Q:=λe=>e.length<=k.af.length/\∀r,r∈e↔∃(i:Nat) (n:Int),k.af[i]?=c7 r/\k.aa2[i]?=c7 n/\n≠0) ?_ λe t=>?_
 .refine di k.af.length (λi f=>f.2=(i:Int)/\f.1.length<=i/\∀r,r∈f.1↔∃(a:Nat) (n:Int),a<i/\k.af[a]?=c7 r/\k.aa2[a]?=c7 n/\n≠0) _ (λi f y p=>?_) (λf p=>?_) _ ⟨rfl,h9 _,λr=>⟨λd=>(by cases d),λ⟨a,n,d,_⟩=>by omega⟩⟩
  .obtain⟨e,x⟩:=f;obtain⟨rfl,m,g⟩:=p;dsimp only at m g⊢;have o:k.af[i]?=c7 k.af[i]:=c6 y;generalize k.af[i]=A at o;unfold HU;rw[aC,bn,o,aa];have c:(bif c5 ((i:Int)<(k.aa2.length:Int)) then(aj k.aa2 (i:Int)).bind λw=>c7 (c5 (w≠0)) else c7 false)=c7 (c5 (∃n,k.aa2[i]?=c7 n/\n≠0)):=by
    by_cases d:(i:Int)<(k.aa2.length:Int)
    .have u:k.aa2[i]?=c7 (k.aa2[i]'(by omega)):=c6 (by omega);generalize k.aa2[i]'(by omega)=n at u;rw[aC d,bn,u,aa]
     congr 1
     exact decide_eq_decide.2 ⟨λq=>⟨n,rfl,q⟩,λ⟨z,c,q⟩=>by injection c with c;subst c;exact q⟩
    .rw[aG d]
     congr 1
     exact(decide_eq_false λ⟨n,c,_⟩=>by rw[hP (by omega)] at c;cases c).symm
   rw[c,aa]
   by_cases d:∃n,k.aa2[i]?=c7 n/\n≠0
   .rw[aC d,dm (by decide) (by omega),aa,aa,aJ];refine ae ⟨rfl,by simp;omega,λr=>?_⟩
    dsimp only;rw[e4,g,e0]
    constructor
    .rintro(⟨a,n,l,b⟩ |rfl)
     .exact⟨a,n,by omega,b⟩
     .obtain⟨n,v,s⟩:=d;exact⟨i,n,by omega,o,v,s⟩
    .rintro⟨a,n,l,b,j,h⟩
     by_cases c:a=i
     .subst c;rw[o] at b;injection b with b;exact .inr b.symm
     .exact .inl ⟨a,n,by omega,b,j,h⟩
   .rw[aG d,aa,aJ];refine ae ⟨rfl,by dsimp only;omega,λr=>?_⟩
    dsimp only;rw[g]
    constructor
    .rintro⟨a,n,l,b⟩;exact⟨a,n,by omega,b⟩
    .rintro⟨a,n,l,b,j,h⟩
     by_cases c:a=i
     .subst c;exact absurd ⟨n,j,h⟩ d
     .exact⟨a,n,by omega,b,j,h⟩
  .obtain⟨e,x⟩:=f;obtain⟨rfl,m,g⟩:=p;dsimp only at m g⊢;unfold HU;rw[aG];refine ae ⟨m,λr=>?_⟩
   rw[g];exact⟨λ⟨a,n,l,b⟩=>⟨a,n,b⟩,λ⟨a,n,b⟩=>⟨a,n,(dt.1 b.1).1,b⟩⟩
 .rw[zF (cX (n:=100) (by omega) (by decide)),aa];exact ae ⟨by rw[uP];exact t.1,λr=>by rw[(uK e).mem_iff];exact t.2 r⟩
def rR(a:cd):Prop:=a.bT.length≠0/\cj 0 63 a.bT/\(1<=a.dZ/\a.dZ<=100000)/\1<=a.ed/\a.ed<=100000
instance (a:cd):Decidable (rR a):=by unfold rR;infer_instance
def mW(a:b7):Prop:=(0<=a.aa0/\a.aa0<=2147483648)/\(if a.State=0 then a.dD=0/\a.akU=0/\a.aa0=0 else if a.State=1 then 0<a.dD/\a.akU=0 else(a.State=2\/a.State=3\/a.State=4)/\0<a.dD/\0<a.akU/\a.dD≠a.akU)
instance (a:b7):Decidable (mW a):=by unfold mW;infer_instance
def AH{h:cd}{a:b7}(k:Fit h.bT):oT LC h a=c7 (c5 (rR h/\mW a)):=by
 unfold oT;rw[kw _ _ _ k,aa,cF,aa,cF,aa,cF,aa,lA,fh (fh (fh rfl)),ew rfl,aa]
 by_cases c:rR h/\0<=a.aa0/\a.aa0<=2147483648
 rotate_left
 .rw[aC (by
   refine dv λg=>c ?_
   simp only[not_or,eo] at g;exact⟨⟨by omega,g.2.1,g.2.2.1,g.2.2.2.1⟩,g.2.2.2.2⟩),decide_eq_false (λb=>c ⟨b.1,b.2.1⟩)]
 obtain⟨f,i⟩:=c;rw[aG (by
  have q:=f.1;rintro(b |b |b |b |b)
  .omega
  .exact b f.2.1
  .exact b f.2.2.1
  .exact b f.2.2.2
  .exact b i)]
 have fin:∀(p:Prop) [Decidable p],((if a.State=0 then a.dD=0/\a.akU=0/\a.aa0=0 else if a.State=1 then 0<a.dD/\a.akU=0 else(a.State=2\/a.State=3\/a.State=4)/\0<a.dD/\0<a.akU/\a.dD≠a.akU)↔p)->c7 (decide p)=c7 (c5 (rR h/\mW a)):=λp _ b=>by
  congr 1
  exact decide_eq_decide.2 ⟨λo=>⟨f,i,b.2 o⟩,λl=>b.1 l.2.2⟩
 by_cases h0:a.State=0
 .rw[aC h0];rw[<-fin (a.dD=0/\a.akU=0/\a.aa0=0) (by rw[if_pos h0])]
  congr 1
  rw[h0]
  by_cases j:a.dD=0 <;> by_cases e:a.akU=0 <;> by_cases d:a.aa0=0 <;> simp[j,e,d]
 rw[aG h0]
 by_cases c:a.State=1
 .rw[aC c];rw[<-fin (0<a.dD/\a.akU=0) (by rw[if_neg h0,if_pos c])];exact fm rfl
 rw[aG c];rw[<-fin ((a.State=2\/a.State=3\/a.State=4)/\0<a.dD/\0<a.akU/\a.dD≠a.akU) (by rw[if_neg h0,if_neg c])];have m:(bif c5 (a.State=2) then c7 (c5 (a.State=2)) else(bif c5 (a.State=3) then c7 (c5 (a.State=3)) else c7 (c5 (a.State=4))).bind λn=>c7 n)=c7 (c5 (a.State=2\/a.State=3\/a.State=4)):=by
  by_cases e:a.State=2
  .rw[aC e,decide_eq_true e,decide_eq_true (.inl e)]
  .rw[aG e]
   by_cases d:a.State=3
   .rw[aC d,aa,decide_eq_true d,decide_eq_true (.inr (.inl d))]
   .rw[aG d,aa]
    congr 1
    exact decide_eq_decide.2 ⟨λb=>.inr (.inr b),λb=>by omega⟩
 rw[m,aa];exact fm (fm (fm rfl))
def rz(a:cd)(c:bA)(b:aL):Prop:=rR a/\ff c/\c.Out=true/\b.aA≠[]/\D1 b a.bT
def aeN{d:cd}{c:bA}{b:aL}(e:Fit d.bT)(i:Fit c.af)(h:gF b):Ok (Ah LC d c b) λv=>v=true->rz d c b:=by
 unfold Ah;rw[AH e,aa];refine aV (λl=>?_) (λ_=>ae λa=>by cases a)
 rw[tA i,aa];refine aV (λj=>?_) (λ_=>ae λa=>by cases a)
 refine dy (λg=>?_) (λ_=>ae λa=>by cases a)
 refine aV (λf=>?_) (λ_=>ae λa=>by cases a)
 rw[Vo h e,aa];exact ae λa=>⟨l.1,j,g,λk=>by rw[k] at f;simp at f,of_decide_eq_true a⟩
def B5{r:jf}(e:Bool)(d:Fit r.x.bT)(c:Fit r.k.af)(f:gF r.b):Ok (si LC r e) λb=>b=0->mW r.s/\r.s.State=r.from_/\(r.s.aa0<=r.t/\r.t<=2147483648)/\e=false/\rz r.x r.k r.b:=by
 unfold si;rw[AH d,aa,de];refine aV (λh=>?_) (λ_=>ae λa=>by cases a)
 refine aV (λ_=>ae λa=>by cases a) (λg=>?_)
 unfold zd;have b:(bif c5 (r.s.aa0<=r.t) then c7 (c5 (r.t<=2147483648)) else c7 false)=c7 (c5 (r.s.aa0<=r.t/\r.t<=2147483648)):=fm rfl;rw[b,aa,lA,ew rfl,aa];refine aV (λ_=>ae λa=>by cases a) (λm=>?_)
 refine dy (λ_=>ae λa=>by cases a) (λk=>?_)
 refine aD (Q:=λ_=>True) (aV (λ_=>ae trivial) (λ_=>ae trivial)) λj _=>?_
 refine dy (λ_=>ae λa=>by cases a) (λ_=>?_)
 rw[tA c,aa];refine aD (Q:=λ_=>True) (dy (λ_=>ae trivial) (λ_=>ae trivial)) λj _=>?_
 refine dy (λ_=>ae λa=>by cases a) (λ_=>?_)
 refine aD (aeN d c f) λv i=>?_
 rw[de];refine dy (λl=>ae λ_=>⟨h.2,eo.1 g,by omega,k,i l⟩) (λ_=>ae λa=>by cases a)
def ao0{x:cd}{s:b7}{k:bA}{b:aL}(l c:Int)(j:Fit x.bT)(h:Fit k.af)(g:gF b):Ok (BR LC x s k b l c) λq=>(q.2≠0/\q.1=s)\/(q.2=0/\mW q.1/\q.1.State=1/\rz x k b):=by
 unfold BR;refine aD (B5 (r:=jf.mk x s k b c 0) _ j h g) λp m=>?_
 refine aV (λa=>ae (.inl ⟨a,rfl⟩)) (λa=>?_)
 obtain⟨i,o,e,d,n⟩:=m (eo.1 a);have d:=of_decide_eq_false d;have f:=i.1;dsimp only at e f;exact ae (.inr ⟨rfl,⟨by dsimp only;omega,by rw[if_neg (by simp),if_pos rfl];exact⟨by dsimp only;omega,rfl⟩⟩,rfl,n⟩)
def ajE{x:cd}{s:b7}{k:bA}{b:aL}(i d:Int)(o:Fit x.bT)(n:Fit k.af)(m:gF b):Ok (AJ LC x s k b i d) λq=>(q.2≠0/\q.1=s)\/(q.2=0/\mW q.1/\q.1.State=2/\rz x k b):=by
 unfold AJ;refine aD (Q:=λc=>c=0->mW s/\s.State=1/\(s.aa0<=d/\d<=2147483648)/\(0<i/\i≠s.dD)/\rz x k b) ?_ λc e=>?_
 .refine aV (λf=>?_) (λf=>?_)
  .refine aD (B5 (r:=jf.mk x s k b d 1) _ o n m) λc e=>ae λh0=>?_
   obtain⟨_,_,_,a,_⟩:=e h0;cases a
  .refine aD (B5 (r:=jf.mk x s k b d 1) _ o n m) λc e=>ae λh0=>?_
   obtain⟨h,g,l,a,j⟩:=e h0;exact⟨h,g,l,⟨by omega,of_decide_eq_false a⟩,j⟩
 .refine aV (λf=>ae (.inl ⟨f,rfl⟩)) (λf=>?_)
  obtain⟨h,g,l,a,j⟩:=e (eo.1 f);obtain⟨t,p⟩:=h;rw[if_neg (by omega),if_pos g] at p;exact ae (.inr ⟨rfl,⟨by dsimp only;omega,by rw[if_neg (by simp),if_neg (by simp)];exact⟨.inl rfl,p.1,a.1,λc=>a.2 c.symm⟩⟩,rfl,j⟩)
def X1{x:cd}{s:b7}{k:bA}{b:aL}(d:Int)(h:Bool)(m:Fit x.bT)(j:Fit k.af)(i:gF b):Ok (CM LC x s k b d h) λq=>(q.2≠0/\q.1=s)\/(q.2=0/\mW q.1/\(q.1.State=3\/q.1.State=4)/\rz x k b):=by
 unfold CM;refine aD (B5 (r:=jf.mk x s k b d 2) _ m j i) λp n=>?_
 refine aV (λc=>ae (.inl ⟨c,rfl⟩)) (λc=>?_)
 obtain⟨e,l,g,_,f⟩:=n (eo.1 c);dsimp only at e l g;obtain⟨o,a⟩:=e;rw[if_neg (by omega),if_neg (by omega)] at a;refine dy (λ_=>ae (.inr ⟨rfl,⟨by dsimp only;omega,?_⟩,.inr rfl,f⟩)) (λ_=>ae (.inr ⟨rfl,⟨by dsimp only;omega,?_⟩,.inl rfl,f⟩))
 .rw[if_neg (by simp),if_neg (by simp)];exact⟨.inr (.inr rfl),a.2⟩
 .rw[if_neg (by simp),if_neg (by simp)];exact⟨.inr (.inl rfl),a.2⟩
def Yc{x:cd}{s:b7}(a:Int)(b:Fit x.bT):Ok (BY LC x s a) λq=>(q.2≠0/\q.1=s)\/(q.2=0/\q.1=⟨0,0,0,0⟩):=by
 unfold BY;rw[AH b,aa,de];refine aV (λe=>?_) (λ_=>ae (.inl ⟨by simp,rfl⟩))
 refine aV (λ_=>ae (.inl ⟨by simp,rfl⟩)) (λd=>?_)
 refine aD (Q:=λ_=>True) (by unfold zd;exact aV (λ_=>ae trivial) (λ_=>ae trivial)) λc _=>?_
 rw[de];refine dy (λ_=>?_) (λ_=>ae (.inl ⟨by simp,rfl⟩))
 refine aD (Q:=λ_=>True) (aV (λ_=>ae trivial) (λ_=>ae trivial)) λc _=>?_
 exact dy (λ_=>ae (.inl ⟨by simp,rfl⟩)) (λ_=>ae (.inr ⟨rfl,rfl⟩))
def Xp:mW ⟨0,0,0,0⟩:=⟨by decide,by rw[if_pos rfl];exact⟨rfl,rfl,rfl⟩⟩
def kb(r:aT):Prop:=(0<=r.agX/\r.agX<=31)/\(0<=r.aj6/\r.aj6<=65535)/\(0<=r.aa0/\r.aa0<=2147483648)/\r.aw.length<=20/\cj 1 65535 r.aw
instance (r:aT):Decidable (kb r):=by unfold kb;infer_instance
def xF{r:aT}(e:Fit r.aw):lQ LC r=c7 (c5 (kb r)):=by
 unfold lQ;rw[cF,aa,cF,aa,cF,aa,kw _ _ _ e,aa,fm (fm (fm (fm rfl)))]
 congr 1
 apply decide_eq_decide.2
 unfold kb
 constructor
 .rintro⟨c,b,a,f,d⟩;exact⟨c,b,a,by omega,d⟩
 .rintro⟨c,b,a,f,d⟩;exact⟨c,b,a,by omega,d⟩
def fp(a:Int):Nat->List Int
 |0=>[]
 |b+1=>(a/256^b%256)::fp a b
def ly(b:Int):∀a,(fp b a).length=a
 |0=>rfl
 |a+1=>by unfold fp;rw[eH,ly b a]
def AO(b:Int):∀a,Bytes (fp b a)
 |0=>Bytes.nil
 |a+1=>by unfold fp;exact Bytes.cons (by omega) (AO b a)
def Qv:∀i:Nat,(2:Int)^ (8*i)=256^i
 |0=>rfl
 |i+1=>by rw[show 8*(i+1)=8*i+8 by omega,Int.pow_add,Qv i,o9];rfl
def IY(i:Nat):(0:Int)<256^i:=Int.pow_pos (by decide)
def put_eq(c:Int)(h0:0<=c)(k:c<=18446744073709551615):∀(a:Nat) (b:List Int),a<=8->b.length<=1000->py LC b c (a:Int)=c7 (b++fp c a):=by
 intro a b e f;unfold py;have j:∀(a:Nat) (b:List Int),a<=8->b.length<=1000+(8 -a)->bO (λd:List Int×Int=>vM LC c d.1 d.2) (b,(a:Int) -1)=c7 (b++fp c a):=by
  intro a
  induction a with
  |zero=>
   intro b _ _;refine fZ ?_
   dsimp only;unfold vM;rw[aG];simp[fp]
  |succ a i=>
   intro b e f;have m:=IY a;have h:iN .u64 c (hS.wrap (c3 c4 (8*(((a+1:Nat):Int) -1))))=c7 (c/256^a):=by
    rw[show 8*(((a+1:Nat):Int) -1)=((8*a:Nat):Int) by omega,aJ,mB (by omega) (by omega),AD (by omega),dk,Nat.min_eq_left (show 8*a<=hS.bits by show 8*a<=64;omega),Qv,ih _ (by omega)]
   have n:0<=c/256^a:=pc h0 (by omega);have l:c/256^a<=c:=p0 _ h0;have g:IntKind.u8.wrap (c/256^a)=c/256^a%256:=by
    unfold IntKind.wrap;simp[IntKind.bits,IntKind.signed]
   rw[iO (a':=(b++[c/256^a%256],(a:Int) -1))]
   .rw[i _ (by omega) (by simp;omega),h8]
    rfl
   .dsimp only;unfold vM;rw[aC,h,aa,g,dm (by decide) (by omega),aa,aJ]
    congr 3
    omega
 have:=j a b e (by omega);rw[aJ,show LC.loop (λd:List Int×Int=>vM LC c d.1 d.2) (b,(a:Int) -1)=_ from this,aa]
def l7(c:List Int):Int:=c.foldl (λa b=>a*256+b) 0
def VV(d b:Int)(h0:0<=d)(g:d*256+255<=18446744073709551615)(e:0<=b/\b<=255):bits .or .u64 (d*256) b=d*256+b:=by
 obtain⟨a,rfl⟩:=j7 h0;obtain⟨c,rfl⟩:=j7 e.1;have f:(a:Int)*256=((a*256:Nat):Int):=by omega
 rw[f];show hS.wrap ((ma 64 ((a*256:Nat):Int) ||| ma 64 (c:Int)).toNat:Int)=_
 rw[BitVec.toNat_or,j1,j1,j6,j6,kh (by omega),kh (by omega)];have:a*256 ||| c=a*256+c:=by
  have:=Nat.shiftLeft_add_eq_or_of_lt (i:=8) (b:=c) (by omega) a;rw[Nat.shiftLeft_eq] at this;exact this.symm
 rw[this,mB (by omega) (by omega)];omega
def L8:∀(c:List Int) (a:Int),Bytes c->0<=a->0<=c.foldl (λa b=>a*256+b) a/\c.foldl (λa b=>a*256+b) a<(a+1)*256^c.length
 |[],a,_,j=>by simp only[List.foldl_nil,hL,Int.pow_zero,Int.mul_one];omega
 |d::c,a,e,j=>by
  have k:=e d (by simp);obtain⟨h,g⟩:=L8 c (a*256+d) (λf i=>e f (by simp[i])) (by omega);rw[q2,eH,o9];refine⟨h,Int.lt_of_lt_of_le g ?_⟩
  have l:=IY c.length;have:(a*256+d+1)*256^c.length<=((a+1)*256)*256^c.length:=Int.mul_le_mul_of_nonneg_right (by omega) (by omega);rw[o2] at this;rw[oi (256^c.length) 256];exact this
def FY(a:List Int)(d:Bytes a)(r:a.length<=7):jQ LC a=c7 (l7 a):=by
 unfold jQ;have m:=nV (f:=λh:Int×Int=>zf LC a h.1 h.2) a.length (λi=>(l7 (a.take i),(i:Int))) (l7 a) (λi c=>by
  dsimp only;have g:=d _ (dd c);have b:=c6 c;generalize a[i]=e at g b;have j:=L8 (a.take i) 0 (d.take i) (fe 0);have l:(a.take i).length=i:=by rw[ea];omega
  rw[l] at j;have t:(256:Int)^i<=256^6:=by
   have:=Nat.pow_le_pow_right (show 256>0 by decide) (show i<=6 by omega);have q:((256^i:Nat):Int)=(256:Int)^i:=by rw[q3];rfl
   have s:((256^6:Nat):Int)=(256:Int)^6:=by rw[q3];rfl
   omega
  have p:(256:Int)^6=281474976710656:=rfl;have k:0<=l7 (a.take i)/\l7 (a.take i)<281474976710656:=by unfold l7;omega
  unfold zf;rw[aC,bn,b,aa,ahO (by omega),show(2:Int)^ (min (8:Int).toNat hS.bits)=256 from rfl,mB (n:=l7 (a.take i)*256) (by omega) (by omega),aa,mB (n:=e) (by omega) (by omega),VV _ _ k.1 (by omega) g,aJ];have o:l7 (a.take (i+1))=l7 (a.take i)*256+e:=by
   unfold l7;rw[iE b,List.foldl_append]
   rfl
  rw[o]
  rfl) (by
  dsimp only;unfold zf;rw[aG,gy])
 exact dL m
def SS(c:Int)(h0:0<=c):∀(a:Nat) (d:Int),(fp c a).foldl (λd b=>d*256+b) d=d*256^a+c%256^a
 |0,d=>by simp[fp]
 |a+1,d=>by
  unfold fp;rw[q2,SS c h0 a,o9,Int.add_mul];have m:=IY a;have f:c%(256^a*256)=c/256^a%256*256^a+c%256^a:=by
   have e:=kc c (256^a*256);have k:=kc c (256^a);have g:=kc (c/256^a) 256;have i:c/ (256^a*256)=c/256^a/256:=(Int.ediv_ediv_of_nonneg (by omega)).symm;rw[i] at e;have h:256^a*256*(c/256^a/256)=256^a*(256*(c/256^a/256)):=o2 _ _ _;rw[h] at e;have l:256^a*(c/256^a)=256^a*(c/256^a%256)+256^a*(256*(c/256^a/256)):=by rw[<-Int.mul_add,g]
   have j:c/256^a%256*256^a=256^a*(c/256^a%256):=oi _ _;omega
  rw[f,o2,oi 256 (256^a)];omega
def IV{n:Int}{k:Nat}(h0:0<=n)(a:n<256^k):l7 (fp n k)=n:=by
 unfold l7;rw[SS n h0,q8,mb,Int.emod_eq_of_lt h0 a]
def jI(b:List Int):List Int:=b.flatMap λa=>fp a 2
def jr(r:aT):List Int:=fp r.aj6 2++fp r.aa0 6++[(r.aw.length:Int)]++jI r.aw
def Gp(a:List Int):(jI a).length=2*a.length:=by
 induction a with
 |nil=>rfl
 |cons c a b=>unfold jI at b⊢;rw[oj,ef,b,ly,eH];omega
def WJ{r:aT}(h:Fit r.aw):Ex LC r=if kb r then c7 (⟨r.agX,9,jr r⟩,0) else c7 (⟨0,0,[]⟩,6):=by
 unfold Ex;rw[xF h,aa,de]
 by_cases b:kb r
 rotate_left
 .rw[aG b,if_neg b]
 rw[aC b,if_pos b];obtain⟨u,k,g,v,m⟩:=b;have j:=put_eq r.aj6 k.1 (by omega) 2 [] (by decide) (by simp);have t:=put_eq r.aa0 g.1 (by omega) 6 (fp r.aj6 2) (by decide) (by rw[ly];omega);rw[mB (n:=r.aj6) (by omega) (by omega),show py LC [] r.aj6 2=_ from j,aa,mB (n:=r.aa0) (by omega) (by omega),n0,show py LC (fp r.aj6 2) r.aa0 6=_ from t,aa,w8 (by omega) (by omega),dm (by decide) (by simp only[ef,ly];omega),aa];have p:=nV (f:=λa:List Int×Int=>wg LC r a.1 a.2) r.aw.length (λi=>(fp r.aj6 2++fp r.aa0 6++[(r.aw.length:Int)]++jI (r.aw.take i),(i:Int))) (jr r) (λi e=>by
  dsimp only;have l:=m.mem (dd e);have d:=c6 e;generalize r.aw[i]=c at l d;unfold wg;have s:=put_eq c (by omega) (by omega) 2 (fp r.aj6 2++fp r.aa0 6++[(r.aw.length:Int)]++jI (r.aw.take i)) (by decide) (by simp only[ef,ly,Gp,ea,eH,hL];omega);rw[aC,bn,d,aa,mB (n:=c) (by omega) (by omega),show py LC _ c 2=_ from s,aa,aJ];have o:jI (r.aw.take (i+1))=jI (r.aw.take i)++fp c 2:=by
   unfold jI;rw[iE d,List.flatMap_append];simp
  rw[o,h8 (_++_++_) (jI _)]
  rfl) (by
  dsimp only;unfold wg;rw[aG,gy]
  rfl)
 have q:LC.loop (λa:List Int×Int=>wg LC r a.1 a.2) (fp r.aj6 2++fp r.aa0 6++[(r.aw.length:Int)],0)=c7 (jr r):=by
  have:=p;simpa[jI] using this
 rw[q,aa]
def WL(r:aT):(jr r).length=9+2*r.aw.length:=by
 unfold jr;simp only[ef,ly,Gp,eH,hL]
def Pl:∀b:List Int,lj (jI b)=b.map λa=>fp a 2
 |[]=>rfl
 |a::b=>by
  unfold jI;rw[oj,km];have c:fp a 2=[a/256^1%256,a/256^0%256]:=rfl;rw[c];show lj (_::_::jI b)=_
  rw[lj,Pl b]
def Nc:∀(b:List Int) (c:List Int),(∀a,a∈b->1<=a/\a<=65535)->c.length+b.length<=100->gW LC (b.map λa=>fp a 2) c=c7 (c++b)
 |[],c,_,_=>by simp[gW]
 |a::b,c,d,e=>by
  have h:=d a (by simp);rw[eH] at e;rw[km,gW,FY _ (AO a 2) (by rw[ly];decide),aa,IV (by omega) (by omega),aJ,dm (by decide) (by omega),aa,Nc b _ (λf g=>d f (by simp[g])) (by simp;omega),h8]
  rfl
def anb{r:aT}(a:kb r):zD LC ⟨r.agX,9,jr r⟩=c7 (r,0):=by
 have h:=a;obtain⟨i,f,c,t,p⟩:=a;have s:=WL r;unfold zD;dsimp only;rw[aG (λg=>g rfl),cF,aa,de,aC i];have o:aj (jr r) 8=c7 (r.aw.length:Int):=by
  rw[show(8:Int)=((8:Nat):Int) from rfl,bn];unfold jr;rw[h8,h8,ez (by rw[ly];decide),ly,ez (by rw[ly];decide),ly]
  rfl
 rw[o,aa];have b:(bif c5 (((jr r).length:Int)<9) then c7 true else c7 (c5 (((jr r).length:Int)≠c3 c4 (9+c3 c4 (2*c3 c4 (r.aw.length:Int))))))=c7 false:=by
  rw[aG,aJ (n:=(r.aw.length:Int)),aJ (n:=2*(r.aw.length:Int)),aJ,decide_eq_false (by omega)]
 rw[b,aa];simp only[cond_false];have m:eG (jr r) 0 2=c7 (fp r.aj6 2):=by
  rw[l8 (by omega) (by omega) (by omega)];unfold jr;simp[fp]
 have l:eG (jr r) 2 8=c7 (fp r.aa0 6):=by
  rw[l8 (by omega) (by omega) (by omega)];unfold jr;simp[fp]
 have e:eG (jr r) 9 ((jr r).length:Int)=c7 (jI r.aw):=by
  rw[l8 (by omega) (by omega) (by omega),dk,gy];unfold jr;simp[fp]
 rw[m,aa,FY _ (AO _ _) (by rw[ly];decide),aa,l,aa,FY _ (AO _ _) (by rw[ly];decide),aa,e,aa];have d:vE LC (jI r.aw) 2=c7 (jI r.aw,2):=by unfold vE;rw[aG (by decide)]
 rw[d,aa,IV (n:=r.aj6) (k:=2) f.1 (by omega),IV (n:=r.aa0) (k:=6) c.1 (by show r.aa0<281474976710656;omega),aJ (n:=r.aj6),aJ (n:=r.aa0)];unfold rA;dsimp only;rw[aC rfl,aC (by rw[Gp];omega),Pl,Nc _ _ (λq j=>p.mem j) (by simp;omega),aa,n0,xF (by show r.aw.length<=_;omega),aa,de];rw[aC (show kb ⟨r.agX,r.aj6,r.aa0,r.aw⟩ from h)]
def abN{x:cZ}{r:aT}(E:Sm x.dl)(y:Sm x.dr)(G:Fit r.aw):Ok (CT LC x r) λq=>q.1.dl.length=x.dl.length/\q.1.dr.length=x.dr.length/\(q.2≠0->q.1=x):=by
 unfold CT;have B:∃b,zY LC x=c7 b/\(b=true->x.dl.length=32/\x.dr.length=32/\(∀n,n∈x.dl->-1<=n/\n<=65535)/\∀n,n∈x.dr->0<=n/\n<=2147483648):=by
  unfold zY
  by_cases m:(x.dl.length:Int)=32
  rotate_left
  .rw[aG m];exact⟨false,rfl,λa=>by cases a⟩
  by_cases s:(x.dr.length:Int)=32
  rotate_left
  .rw[aC m,aG s];exact⟨false,rfl,λa=>by cases a⟩
  have g:Am LC x.dl=c7 (x.dl.any λn=>!c5 (-1<=n/\n<=65535)):=by
   unfold Am GR;have:=fF (l:=x.dl) (P:=λd=>Ap LC d) (p:=λn=>!c5 (-1<=n/\n<=65535)) (f:=λc=>I8 LC x.dl c) (by omega) (λd z=>by
    unfold Ap;rw[cF,aa]) (λc=>rfl)
   rw[show(LC.loop (λc=>I8 LC x.dl c) 0).bind _=_ from this,aa,gm]
  have i:CZ LC x.dr=c7 (x.dr.any λn=>!c5 (0<=n/\n<=2147483648)):=by
   unfold CZ JV;have:=fF (l:=x.dr) (P:=λd=>Dd LC d) (p:=λn=>!c5 (0<=n/\n<=2147483648)) (f:=λc=>FL LC x.dr c) (by omega) (λd z=>by
    unfold Dd;rw[cF,aa]) (λc=>rfl)
   rw[show(LC.loop (λc=>FL LC x.dr c) 0).bind _=_ from this,aa,gm]
  rw[aC m,aC s,g,aa,ot,i,aa,ot]
  by_cases k:∀n,n∈x.dl->-1<=n/\n<=65535
  .rw[aC k];exact⟨_,rfl,λa=>⟨by omega,by omega,k,of_decide_eq_true a⟩⟩
  .rw[aG k];exact⟨false,rfl,λa=>by cases a⟩
 obtain⟨b,g,i⟩:=B;rw[g,aa,de];refine dy (λu=>?_) (λ_=>ae ⟨rfl,rfl,λ_=>rfl⟩)
 obtain⟨S,L,w,C⟩:=i u;rw[xF G,aa,de];refine aV (λA=>?_) (λ_=>ae ⟨rfl,rfl,λ_=>rfl⟩)
 obtain⟨o,M,J,N,O⟩:=A;have h:x.dl[r.agX.toNat]?=c7 (x.dl[r.agX.toNat]'(by omega)):=c6 (by omega);have I:=w _ (dd (show r.agX.toNat<x.dl.length by omega));generalize x.dl[r.agX.toNat]'(by omega)=e at h I;have j:x.dr[r.agX.toNat]?=c7 (x.dr[r.agX.toNat]'(by omega)):=c6 (by omega);have D:=C _ (dd (show r.agX.toNat<x.dr.length by omega));generalize x.dr[r.agX.toNat]'(by omega)=d at j D;have t:aj x.dl r.agX=c7 e:=by unfold aj;rw[if_pos o.1];exact h
 have F:aj x.dr r.agX=c7 d:=by unfold aj;rw[if_pos o.1];exact j
 have H:=abO (v:=r.aj6 -e+65536) (n:=65536) (by omega) (by decide);rw[t,aa,aJ (n:=r.aj6 -e),aJ (n:=r.aj6 -e+65536),D7 (by omega),aa];generalize (r.aj6 -e+65536).tmod 65536=R at H;refine aD (Q:=λ_=>True) (aV (λ_=>aV (λ_=>ae trivial) (λ_=>ae trivial)) (λ_=>ae trivial)) λK _=>?_
 refine dy (λ_=>ae ⟨rfl,rfl,λ_=>rfl⟩) (λ_=>?_)
 rw[bV E,aa,bV y,aa,t,aa,h,aa];refine aV (λ_=>?_) (λ_=>ae ⟨by dsimp only;rw[dT],rfl,λa=>absurd rfl a⟩)
 rw[F,aa,j,aa,aa,aa];exact ae ⟨by dsimp only;rw[dT],by dsimp only;rw[dT],λa=>absurd rfl a⟩
where abO {v n:Int} (h0:0<=v) (hn:1<=n):0<=v.tmod n/\v.tmod n<n:=⟨Int.tmod_nonneg n h0,Int.tmod_lt_of_pos v (by omega)⟩
def Xo{l:List aS}{r:aT}(y:Fit r.aw)(x:∀a,a∈l->0<=a.cR/\a.cR<=60):Ok (Bl LC l r) λq=>q.1.length<=20/\(q.2=0->kb r/\∃a,l[r.agX.toNat]?=c7 a/\∀b,b∈q.1->b.Tag∈r.aw/\b.an=max 0 (r.aa0 -a.cR)/\b.To=r.aa0+a.cR):=by
 unfold Bl;rw[xF y,aa,de];refine aV (λp=>?_) (λ_=>ae ⟨by simp,λh=>by cases h⟩)
 refine aV (λ_=>ae ⟨by simp,λh=>by cases h⟩) (λB=>?_)
 obtain⟨k,s,m,j,v⟩:=p;have g:l[r.agX.toNat]?=c7 (l[r.agX.toNat]'(by omega)):=c6 (by omega);have z:=x _ (dd (show r.agX.toNat<l.length by omega));generalize l[r.agX.toNat]'(by omega)=a at g z;have o:aj l r.agX=c7 a:=by unfold aj;rw[if_pos k.1];exact g
 rw[o,aa];have u:=jm (f:=λb:List dS×Int=>Dq LC r a b.1 b.2) r.aw (λc i=>(c.map λd=>dS.mk r.agX d (max 0 (r.aa0 -a.cR)) (r.aa0+a.cR),i)) (λc=>c.map λd=>dS.mk r.agX d (max 0 (r.aa0 -a.cR)) (r.aa0+a.cR)) (λc C A e=>by
  dsimp only;unfold Dq;have:=iy e;rw[aC (iy e),jg e,aa,aJ (n:=r.aa0 -a.cR),aJ (n:=r.aa0+a.cR),dm (by decide) (by rw[ev];omega),aa,aJ,hq]
  rfl) (by
  dsimp only;unfold Dq;rw[aG])
 refine c8 u ?_
 refine ae ⟨by rw[ev];exact j,λ_=>⟨⟨k,s,m,j,v⟩,a,g,λb w=>?_⟩⟩
 obtain⟨d,t,rfl⟩:=j9.1 w;exact⟨t,rfl,rfl⟩
def jX(d:List aT)(e f:Int)(run:List aT):Prop:=(∀r,r∈run->r∈d/\r.agX=e/\f∉r.aw)/\∀(c:Nat) b a,run[c]?=c7 b->run[c+1]?=c7 a->a.aj6=(b.aj6+1).tmod 65536
def nc(e:List aT)(f g:Int)(c:aS)(d:dC):Prop:=∃run b a,jX e f g run/\run[0]?=c7 b/\run[run.length -1]?=c7 a/\d.an=b.aa0+c.cR/\d.To=a.aa0 -c.cR
def anm{rd:aS}{a b:aT}(d:0<=a.aj6/\a.aj6<=65535):Ok (xH LC rd a b) λv=>v=true->b.aj6=(a.aj6+1).tmod 65536:=by
 unfold xH;rw[aJ,D7 (by omega),aa];refine aV (λc=>?_) (λ_=>ae λc=>by cases c)
 exact aV (λ_=>ae λ_=>c) (λ_=>ae λc=>by cases c)
def GX{f run:List aT}{a:aS}{b c:Int}{out:List dC}(q:∀r,r∈f->kb r)(w:0<=a.cR/\a.cR<=60)(o:jX f b c run)(x:run.length<=400)(z:out.length<=1000)(m:∀d,d∈out->nc f b c a d):
 ∃k,yG LC run a b c out=c7 (pC run a b c [] k)/\xD LC run a b c out=c7 (u32 [] a k b c)/\k.length<=out.length+1/\∀d,d∈k->nc f b c a d:=by
 unfold yG xD
 by_cases j:1<(run.length:Int)
 rotate_left
 .rw[aG j,aG j];exact⟨out,rfl,rfl,by omega,m⟩
 rw[aC j,aC j];have h:run[0]?=c7 (run[0]'(by omega)):=c6 (by omega);have s:=q _ (o.1 _ (dd (show 0<run.length by omega))).1;have l:run[run.length -1]?=c7 (run[run.length -1]'(by omega)):=c6 (by omega);have t:=q _ (o.1 _ (dd (show run.length -1<run.length by omega))).1;generalize run[0]'(by omega)=i at h s;generalize run[run.length -1]'(by omega)=p at l t;have u:aj run 0=c7 i:=by rw[show(0:Int)=((0:Nat):Int) from rfl,bn];exact h
 have v:c3 c4 ((run.length:Int) -1)=((run.length -1:Nat):Int):=by rw[aJ];omega
 have y:=s.2.2.1;have A:=t.2.2.1;rw[v,bn,dk,show(0:Int).toNat=0 from rfl,u,h,l];simp only[aa];rw[aJ (n:=i.aa0+a.cR),aJ (n:=p.aa0 -a.cR)]
 by_cases g:i.aa0+a.cR<p.aa0 -a.cR
 .rw[aC g,aC g,dm (by decide) (by omega),aa,aa];refine⟨_,rfl,rfl,by simp,λd e=>?_⟩
  rcases e4.1 e with e |e
  .exact m d e
  .rw[e0] at e;subst e;exact⟨run,i,p,o,h,l,rfl,rfl⟩
 .rw[aG g,aG g];exact⟨out,rfl,rfl,by omega,m⟩
def jX.nil{a:List aT}{k tag:Int}:jX a k tag []:=⟨λr h=>(by cases h),λc x d h=>by simp at h⟩
def jX.snoc{d run:List aT}{k tag:Int}{r:aT}(h:jX d k tag run)(s:r∈d)(o:r.agX=k)(n:tag∉r.aw)(t:∀x,run[run.length -1]?=c7 x->0<run.length->r.aj6=(x.aj6+1).tmod 65536):jX d k tag (run++[r]):=by
 refine⟨λx a=>?_,λj x l a c=>?_⟩
 .rcases e4.1 a with a |a
  .exact h.1 x a
  .rw[e0] at a;subst a;exact⟨s,o,n⟩
 .by_cases e:j+1<run.length
  .rw[h6 (by omega)] at a c;exact h.2 j x l a c
  .have m:j+1=run.length:=by
    have:=(dt.1 c).1;simp at this;omega
   rw[h6 (by omega)] at a;rw[ez (by omega),m,j8] at c;have c:r=l:=by simpa using c
   subst c;exact t x (by rw[<-m,o4];exact a) (by omega)
def ag3{rs:List aS}(c d:Int)(l:List aT)(ab:∀rd,rd∈rs->0<=rd.cR/\rd.cR<=60)(R:∀r,r∈l->Fit r.aw):Ok (xp LC rs c d l) λq=>q.1.length<=1000/\(q.2=0->0<=c/\∃rd,rs[c.toNat]?=c7 rd/\∀a,a∈q.1->nc l c d rd a):=by
 unfold xp;refine aV (λ_=>ae ⟨by simp,λs=>by cases s⟩) (λao=>?_)
 have Y:Ad LC l=c7 (l.any λr=>!c5 (kb r)):=by
  unfold Ad GJ;have:=fF (l:=l) (P:=λn=>Ai LC n) (p:=λr=>!c5 (kb r)) (f:=λo=>I4 LC l o) (by omega) (λn C=>by
   unfold Ai;rw[xF (R n C),aa]) (λo=>rfl)
  rw[show(LC.loop (λo=>I4 LC l o) 0).bind _=_ from this,aa,gm]
 rw[Y,aa,HA];refine aV (λ_=>ae ⟨by simp,λs=>by cases s⟩) (λt=>?_)
 have t:∀r,r∈l->kb r:=Classical.byContradiction t;rw[ew rfl,aa];refine aV (λ_=>ae ⟨by simp,λs=>by cases s⟩) (λar=>?_)
 rw[cF,aa,de];refine aV (λap=>?_) (λ_=>ae ⟨by simp,λs=>by cases s⟩)
 have E:rs[c.toNat]?=c7 (rs[c.toNat]'(by omega)):=c6 (by omega);have z:=ab _ (dd (show c.toNat<rs.length by omega));generalize rs[c.toNat]'(by omega)=rd at E z;have T:aj rs c=c7 rd:=by unfold aj;rw[if_pos (by omega)];exact E
 rw[T,aa];refine aD (Q:=λe=>∃run out,e=qA c d rd run out/\jX l c d run/\run.length<=l.length/\out.length<=l.length/\∀a,a∈out->nc l c d rd a) ?_ λe j=>?_
 .refine di l.length (λi o=>∃out run,o=vI c d rd out run (i:Int)/\jX l c d run/\run.length<=i/\out.length<=i/\∀a,a∈out->nc l c d rd a) _ (λi o L G=>?_) (λo G=>?_) _ ⟨[],[],rfl,jX.nil,h9 _,h9 _,λa am=>by cases am⟩
  .obtain⟨out,run,rfl,k,H,F,m⟩:=G;have K:l[i]?=c7 l[i]:=c6 L;have v:=dd L;generalize l[i]=h at K v;have au:=t h v;show Ok (vj LC l c d rd out run (i:Int)) _
   unfold vj;rw[aC,bn,K,aa];have fin:∀(e:pg) g y,e=ql c d rd g y->jX l c d y->y.length<=i+1->g.length<=i+1->(∀a,a∈g->nc l c d rd a)->Ok (c7 (m0 (vI (Jw e) (KY e) (Kd e) (FE e) (vh e) (c3 c4 ((i:Int)+1))))) λe:oI⊕qt=>match e with
    | .inl V=>∃out run,V=vI c d rd out run ((i+1:Nat):Int)/\jX l c d run/\run.length<=i+1/\out.length<=i+1/\∀a,a∈out->nc l c d rd a
    | .inr e=>∃run out,e=qA c d rd run out/\jX l c d run/\run.length<=l.length/\out.length<=l.length/\∀a,a∈out->nc l c d rd a:=λe g y j ah S ad an=>by
    subst j;rw[aJ];exact ae ⟨g,y,rfl,ah,S,ad,an⟩
   by_cases I:h.agX≠c
   .rw[aC I,aa];exact WI (fin _ out run rfl k (by omega) (by omega) m) λe j=>by cases e <;> exact j
   .rw[aG I];have M:h.agX=c:=eo.1 I;rw[contains_eq (R h v),aa]
    by_cases A:d∈h.aw
    .rw[aC A];obtain⟨g,w,_,O,x⟩:=GX t z k (by omega) (by omega) m;rw[w,aa];dsimp only;rw[aa];exact WI (fin _ g [] rfl jX.nil (by simp) (by omega) x) λe j=>by cases e <;> exact j
    .rw[aG A];have ak:∃n,(bif c5 (0<(run.length:Int)) then(aj run (c3 c4 ((run.length:Int) -1))).bind λ_=>(run[(c3 c4 ((run.length:Int) -1)).toNat]?).bind λaf=>(xH LC rd af h).bind λU=>c7 (!U) else c7 false)=c7 n/\(n=false->∀u,run[run.length -1]?=c7 u->0<run.length->h.aj6=(u.aj6+1).tmod 65536):=by
      by_cases h0:0<(run.length:Int)
      .have ag:c3 c4 ((run.length:Int) -1)=((run.length -1:Nat):Int):=by rw[aJ];omega
       have J:run[run.length -1]?=c7 (run[run.length -1]'(by omega)):=c6 (by omega);have N:=t _ (k.1 _ (dd (show run.length -1<run.length by omega))).1;generalize run[run.length -1]'(by omega)=u at J N;obtain⟨b,X,ac⟩:=anm (rd:=rd) (a:=u) (b:=h) N.2.1;rw[aC h0,ag,bn,dk,J,aa,aa,X,aa];refine⟨!b,rfl,λC aq B _=>?_⟩
       injection B with B
       subst B;exact ac (by simpa using C)
      .rw[aG h0];exact⟨false,rfl,λ_ u _ s=>absurd (by omega) h0⟩
     obtain⟨n,al,W⟩:=ak;rw[al,aa];cases n with
     |true=>
      obtain⟨g,w,_,O,x⟩:=GX t z k (by omega) (by omega) m;simp only[cond_true];rw[w,aa];rw[aa];have D:bj 48 (vh (ql (KG (pC run rd c d [] g)) (FU (pC run rd c d [] g)) (Fp (pC run rd c d [] g)) (GM (pC run rd c d [] g)) (Hz (pC run rd c d [] g)))) [h]=c7 ([]++[h]):=dm (by decide) (by show([]:List aT).length<=_;simp);rw[D,aa,aa];exact WI (fin _ g ([]++[h]) rfl (jX.nil.snoc v M A λu Z=>by simp at Z) (by simp) (by omega) x) λe j=>by cases e <;> exact j
     |false=>
      simp only[cond_false];rw[aa];have D:bj 48 (vh (ql c d rd out run)) [h]=c7 (run++[h]):=dm (by decide) (by show run.length<=_;omega);rw[D,aa,aa];exact WI (fin _ out (run++[h]) rfl (k.snoc v M A (W rfl)) (by simp;omega) (by omega) m) λe j=>by cases e <;> exact j
  .obtain⟨out,run,rfl,k,H,F,m⟩:=G;show Ok (vj LC l c d rd out run (l.length:Int)) _
   unfold vj;rw[aG];exact ae ⟨run,out,rfl,k,H,F,m⟩
 .obtain⟨run,out,rfl,k,H,F,m⟩:=j;obtain⟨g,_,w,O,x⟩:=GX t z k (by omega) (by omega) m;have ai:xD LC (Mb (qA c d rd run out)) (MT (qA c d rd run out)) (LJ (qA c d rd run out)) (Tn (qA c d rd run out)) (N2 (qA c d rd run out))=c7 (u32 [] rd g c d):=w;dsimp only;rw[ai,aa];exact ae ⟨by show g.length<=1000;omega,λ_=>⟨by omega,rd,E,x⟩⟩
def LV{a:aS}(e:0<=a.dY/\a.dY<=10)(c:1<=a.dX/\a.dX<=600):Dh LC a=c7 ((a.dY+1)*a.dX):=by
 unfold Dh;have d:0<=(a.dY+1)*a.dX:=Int.mul_nonneg (by omega) (by omega);have b:(a.dY+1)*a.dX<=11*600:=n2 (by omega) c.2 (by omega) (by decide);rw[aJ (n:=a.dY+1),aJ]
def Hs{o:Type}{z:o}{c:List o}(T:c.length<=1000000){D:o->Option Bool}{p:o->Bool}(H:∀a,a∈c->D a=c7 (p a)){f:List o×Int×Int->Option ((List o×Int×Int)⊕(List o×Int))}
 (B:∀e i g,f (e,i,g)=bif c5 (g<(e.length:Int)) then(aj e g).bind λ_=>(e[g.toNat]?).bind λa=>(D a).bind λO=>(bif (!O) then(aj e i).bind λ_=>(e[i.toNat]?).bind λ_=>c7 (e.set i.toNat a,c3 c4 (i+1)) else c7 (e,i)).bind λd=>c7 (.inl (d.1,d.2,c3 c4 (g+1))) else c7 (.inr (e,i))):
 (bif c5 (gg p c= -1) then c7 c else(bO f (c,gg p c,c3 c4 (gg p c+1))).bind λd=>(eG d.1 d.2 (d.1.length:Int)).bind λ_=>(eG (X.iG z d.2.toNat ((d.1.length:Int).toNat -d.2.toNat) d.1) 0 d.2).bind λa=>c7 a)=c7 (c.filter λa=>!p a):=by
 by_cases h0:gg p c= -1
 .rw[aC h0]
  congr 1
  symm
  refine ng.2 λa l=>?_
  cases m:p a with
  |false=>rfl
  |true=>exact absurd (Aw.2 ⟨a,l,m⟩) (by omega)
 rw[aG h0];have I:0<=gg p c:=by
  unfold gg at h0⊢;cases C:jv (mj p c) 0 c.length with
  |none=>rw[C] at h0;exact absurd rfl h0
  |some b=>
   obtain⟨g,_,_,k,_⟩:=yO C;unfold mj at k;cases l:c[g]? with
   |none=>rw[l] at k;cases k
   |some a=>
    rw[l] at k;cases m:p a with
    |false=>simp only[m,cond_false] at k;cases k
    |true=>simp only[m,cond_true] at k;injection k with k;show 0<=b;omega
 obtain⟨h,S,J,y,F,K⟩:=HN I;have R:=(dt.1 y).1;rw[J,aJ];have G:Ok (bO f (c,(h:Int),(h:Int)+1)) λd=>∃i:Nat,d.2=(i:Int)/\i<=d.1.length/\d.1.take i=c.filter λa=>!p a:=by
  refine di (c.length - (h+1)) (λj e=>∃i:Nat,e.2.1=(i:Int)/\e.2.2=((h+1+j:Nat):Int)/\i<h+1+j/\e.1.length=c.length/\e.1.take i=(c.take (h+1+j)).filter (λa=>!p a)/\∀g,h+1+j<=g->e.1[g]?=c[g]?) _ (λj e U v=>?_) (λe v=>?_) _ ⟨h,rfl,by show(h:Int)+1=_;omega,by omega,rfl,?_,λg _=>rfl⟩
  .obtain⟨aK,N,b⟩:=e;obtain⟨i,rfl,rfl,w,t,r,s⟩:=v;dsimp only at w t r s;have q:h+1+j<c.length:=by omega
   have l:=c6 q;have A:=dd q;generalize c[h+1+j]=a at l A;have x:aK[h+1+j]?=c7 a:=(s _ (h9 _)).trans l;rw[B,aC,bn,x,aa,dk,x,aa,H a A,aa,de];have E:(c.take (h+1+(j+1))).filter (λa=>!p a)=(c.take (h+1+j)).filter (λa=>!p a)++(if p a=true then[] else[a]):=by
    rw[show h+1+(j+1)=(h+1+j)+1 by omega,iE l,o6];cases m:p a <;> simp[m]
   cases m:p a with
   |true=>
    simp only[cond_true,aa];rw[aJ];refine ae ⟨i,rfl,by dsimp only;omega,by omega,t,?_,λg q=>s g (by omega)⟩
    rw[E,m];simpa using r
   |false=>
    have u:i<aK.length:=by omega
    simp only[cond_false];rw[bn,c6 u,aa,dk,c6 u,aa,aa,aJ (n:=(i:Int)+1),aJ];refine ae ⟨i+1,rfl,by dsimp only;omega,by omega,by dsimp only;rw[dT];exact t,?_,λg q=>?_⟩
    .dsimp only;rw[E,m,iE (gv u),o1 (h9 _),r];simp
    .dsimp only;rw[hz (by omega)];exact s g (by omega)
  .obtain⟨aK,N,b⟩:=e;obtain⟨i,rfl,rfl,w,t,r,s⟩:=v;dsimp only at w t r s;rw[B,aG];refine ae ⟨i,rfl,by dsimp only;omega,?_⟩
   dsimp only;rw[r,hM (by omega)]
  .rw[qb,iE y,o6];simp only[F,ey,j5,not_false_eq_true,List.filter_cons_of_neg,List.filter_nil,my]
   symm
   refine ng.2 λa l=>?_
   obtain⟨g,q,rfl⟩:=e5.1 l;rw[ea] at q;rw[o8];rw[K g _ (by omega) (c6 (by omega))]
   rfl
 obtain⟨d,M,i,L,P,k⟩:=G;rw[M,aa,L,l8 (by omega) (by omega) (by omega),aa,dk,dk];have Q:(X.iG z i (d.1.length -i) d.1).length=d.1.length:=by
  unfold X.iG;simp only[ef,ea,e6,h5];omega
 rw[l8 (by omega) (by omega) (by omega),aa,dk]
 congr 1
 show((X.iG z i (d.1.length -i) d.1).take i).drop 0=_
 rw[k0, <-k];unfold X.iG;rw[l0 (by rw[ea];omega),q5,r0]
def al9{c:List Int}(W:c.length<=1000000):Ok (ED LC c) λr=>r.length<=c.length/\∀d,d∈r↔d∈c:=by
 unfold ED;refine aV (λ_=>ae ⟨h9 _,λd=>Iff.rfl⟩) (λT=>?_)
 refine aD (Q:=λf=>match f with | .inl r=>r.length<=c.length/\∀d,d∈r↔d∈c | .inr _=>True) ?_ λf t=>?_
 .refine di (c.length -1) (λa g=>g=((1+a:Nat):Int)) _ (λa g Z k=>?_) (λg k=>?_) _ rfl
  .subst k;have s:1+a<c.length:=by omega
   have L:c3 c4 (((1+a:Nat):Int) -1)=(a:Int):=by rw[aJ];omega
   unfold If;rw[aC,bn,c6 s,aa,dk,c6 s,aa,L,bn,c6 (show a<c.length by omega),aa,dk,c6 (show a<c.length by omega),aa];refine aV (λC=>?_) (λ_=>by rw[aJ];exact ae (by dsimp only;omega))
   rw[l8 (by omega) (by omega) (by omega),aa];refine aD (Q:=λf=>∃i:Nat,f.2=(i:Int)/\f.1.length=c.length/\i<=c.length/\∀d,d∈f.1.take i↔d∈c) ?_ λf t=>?_
   .refine di (c.length - (1+a) -1) (λe g=>∃i:Nat,g.2.1=(i:Int)/\g.2.2=((e+1:Nat):Int)/\i<=1+a+e/\g.1.length=c.length/\(∀h,1+a+e<=h->g.1[h]?=c[h]?)/\∀d,d∈g.1.take i↔d∈c.take (1+a+e+1)) _ (λe g A k=>?_) (λg k=>?_) _ ⟨1+a,rfl,rfl,by omega,rfl,λh _=>rfl,λd=>?_⟩
    .obtain⟨aK,O,b⟩:=g;obtain⟨i,rfl,rfl,u,m,j,o⟩:=k;dsimp only at u m j o;have S:1+a+(e+1)<c.length:=by omega
     have p:=c6 S;have q:=c6 (show 1+a+e<c.length by omega);generalize ab:c[1+a+(e+1)]=X at p;generalize af:c[1+a+e]'(by omega)=x at q;have I:aK[1+a+(e+1)]?=c7 X:=(j _ (by omega)).trans p;have H:aK[1+a+e]?=c7 x:=(j _ (by omega)).trans q;have M:(((aK).drop ((1+a:Nat):Int).toNat).take ((c.length:Int).toNat - ((1+a:Nat):Int).toNat)).length=c.length - (1+a):=by
      rw[ea,h5,dk,dk];omega
     have z:∀h:Nat,h<c.length - (1+a)->∃P,aj (((aK).drop ((1+a:Nat):Int).toNat).take ((c.length:Int).toNat - ((1+a:Nat):Int).toNat)) (h:Int)=c7 P:=λh y=>⟨_,by rw[bn];exact c6 (by omega)⟩
     obtain⟨ad,D⟩:=z (e+1) (by omega);obtain⟨ac,R⟩:=z e (by omega);have J:c3 c4 (((e+1:Nat):Int) -1)=(e:Int):=by rw[aJ];omega
     dsimp only;unfold Kw;rw[aC (by rw[M];omega),D,aa,J,R,aa,dk,dk,I,aa,dk,H,aa,aa,aa];have B:∀d,d∈c.take (1+a+(e+1)+1)↔d∈c.take (1+a+e+1)\/d=X:=λd=>by
      rw[show 1+a+(e+1)+1=(1+a+(e+1))+1 by omega,iE p,e4,e0,show 1+a+(e+1)=1+a+e+1 by omega]
     have F:x∈c.take (1+a+e+1):=by rw[iE q];simp
     by_cases v:X≠x
     .have w:i<aK.length:=by omega
      rw[aC v,bn,c6 w,aa,dk,c6 w,aa,aa,aJ (n:=(i:Int)+1),aJ];refine ae ⟨i+1,rfl,by dsimp only;omega,by omega,by dsimp only;rw[dT];exact m,λh y=>?_,λd=>?_⟩
      .dsimp only;rw[hz (by omega)];exact j h (by omega)
      .dsimp only;rw[B,iE (gv w),o1 (h9 _),e4,e0,o]
     .have E:=eo.1 v;rw[aG v,aa,aJ];refine ae ⟨i,rfl,by dsimp only;omega,by omega,m,λh y=>j h (by omega),λd=>?_⟩
      dsimp only;rw[B,o];exact⟨.inl,λl=>l.elim id λl=>by rw[l,E];exact F⟩
    .obtain⟨aK,O,b⟩:=g;obtain⟨i,rfl,rfl,u,m,j,o⟩:=k;dsimp only at u m j o;dsimp only;unfold Kw;rw[aG (by rw[ea,h5,dk,dk];omega)];refine ae ⟨i,rfl,m,by omega,λd=>?_⟩
     dsimp only;rw[o,hM (by omega)]
    .dsimp only;have q:=c6 s;have p:=c6 (show a<c.length by omega);rw[show 1+a+0+1=(1+a)+1 by omega,iE q,e4,e0,C];refine⟨.inl,λl=>l.elim id λl=>?_⟩
     have K:c[a]∈c.take (a+1):=by rw[iE p];exact e4.2 (.inr (e0.2 rfl))
     rw[l,show 1+a=a+1 by omega];exact K
   .obtain⟨i,N,Y,U,G⟩:=t;rw[N,l8 (by omega) (by omega) (by omega),aa,dk,dk];have V:(X.iG (0:Int) i (f.1.length -i) f.1).length=f.1.length:=by
     unfold X.iG;simp only[ef,ea,e6,h5];omega
    rw[l8 (by omega) (by omega) (by omega),aa,dk];have A:((X.iG (0:Int) i (f.1.length -i) f.1).take i).drop (0:Int).toNat=f.1.take i:=by
     show((X.iG (0:Int) i (f.1.length -i) f.1).take i).drop 0=_
     rw[k0];unfold X.iG;rw[l0 (by rw[ea];omega),q5,r0]
    rw[A];exact ae ⟨by rw[ea];omega,G⟩
  .subst k;unfold If;rw[aG];exact ae trivial
 .cases f with
  |inl r=>exact ae t
  |inr _=>exact ae ⟨h9 _,λd=>Iff.rfl⟩
def akS{a b:List Int}(f:a.length+b.length<=100000):Ok (zT LC a b) λr=>r.length<=a.length+b.length/\∀d,d∈r↔d∈a\/d∈b:=by
 unfold zT He;have i:bO (λc:Int×Int=>ve LC [a,b] c.1 c.2) (0,0)=c7 ((a.length+b.length:Nat):Int):=by
  rw[iO (a':=((a.length:Int),1)),iO (a':=(((a.length+b.length:Nat):Int),2)),fZ (b:=((a.length+b.length:Nat):Int))]
  .rfl
  .dsimp only;unfold ve;rw[aC (by simp),show aj [a,b] 1=c7 b from rfl,aa,aJ (n:=(a.length:Int)+b.length),aG,aJ]
   congr 2
  .dsimp only;unfold ve;rw[aC (by simp),show aj [a,b] 0=c7 a from rfl,aa,aJ (n:=0+(a.length:Int)),aG,aJ,mb]
   rfl
 rw[show LC.loop (λc:Int×Int=>ve LC [a,b] c.1 c.2) (0,0)=_ from i,aa];have k:CW LC ((a.length+b.length:Nat):Int)=c7 []:=by
  unfold CW Ct;rw[aC,nS (by omega) (by omega),aa]
 rw[k,aa];have h:∀d e:List Int,d.length+e.length<=100000->bj 8 d e=c7 (d++e):=λd e f=>pN (by omega)
 have j:bO (λc:List Int×Int=>xV LC [a,b] c.1 c.2) ([],0)=c7 (a++b):=by
  rw[iO (a':=(a,1)),iO (a':=(a++b,2)),fZ (b:=a++b)]
  .rfl
  .dsimp only;unfold xV;rw[aC (by simp),show aj [a,b] 1=c7 b from rfl,aa,h a b f,aa]
   rfl
  .dsimp only;unfold xV;rw[aC (by simp),show aj [a,b] 0=c7 a from rfl,aa,h [] a (by simp;omega),aa,n0]
   rfl
 rw[show LC.loop (λc:List Int×Int=>xV LC [a,b] c.1 c.2) ([],0)=_ from j];simp only[aa];rw[zF (cX (n:=100000) (by rw[ef];exact f) (by decide)),aa];refine aD (al9 (by rw[uP,ef];omega)) λr g=>ae ⟨by have:=g.1;rw[uP,ef] at this;exact this,λd=>?_⟩
 rw[g.2,(uK _).mem_iff,e4]
def lH(b:ak)(a:bE):Prop:=cP b/\cj 0 ((b.ai.length:Int) -1) a.akL/\cj 0 ((b.ai.length:Int) -1) a.dg/\cj 0 ((b.af.length:Int) -1) a.dG/\0<=a.er/\a.er<=2147483648
instance (b:ak) (a:bE):Decidable (lH b a):=by unfold lH;infer_instance
structure lO (e:bE):Prop where
 s:Fit e.akL
 b:Fit e.dg
 h:Fit e.dG
def Jc{b:ak}{d:bE}(e:lO d):rP LC b d=c7 (c5 (lH b d)):=by
 unfold rP;rw[ko,aa]
 by_cases a:cP b
 rotate_left
 .rw[aG a,decide_eq_false (λc=>a c.1)]
 have g:=a.1;have f:=a.2.1;rw[aC a,aJ (n:=(b.ai.length:Int) -1),aJ (n:=(b.af.length:Int) -1),kw _ _ _ e.s,aa,kw _ _ _ e.b,aa,kw _ _ _ e.h,aa,cF,aa,fm (fm (fm rfl))]
 congr 1
 exact decide_eq_decide.2 ⟨λc=>⟨a,c⟩,λc=>c.2⟩
def ahk{a:ak}{b:bE}{p:Int}(d:lO b)(c:Fit a.ai):Bc LC a b p=c7 (c5 (lH a b/\0<=p/\p<=(a.ai.length:Int) -1)):=by
 have e:a.ai.length<=4611686018427387904:=c;unfold Bc;rw[Jc d,aa,aJ,cF,aa];exact fm rfl
def mn(c:ak)(a:cS):Prop:=∃(i:Nat) (r:aZ) (b:Bool),c.af[i]?=c7 r/\a.gX=(i:Int)/\a.from_=(if b then r.To else r.an)/\a.b9=(if b then r.an else r.To)/\a.time=wT c (i:Int) b 2 3 4/\0<=a.time
structure mA (f:cm) (n:Nat):Prop where
 MP:f.n=(n:Int)
 sM:n<=64
 safe:f.safe.length=n
 bad:f.bad.length=n
 num:f.steps.length<=300
 st:∀s,s∈f.steps->(0<=s.from_/\s.from_<(n:Int))/\(0<=s.b9/\s.b9<(n:Int))/\1<=s.time/\s.time<=1000099
def mn.ok{m:ak}(k:cP m){s:cS}(h:mn m s):(0<=s.from_/\s.from_<(m.ai.length:Int))/\(0<=s.b9/\s.b9<(m.ai.length:Int))/\1<=s.time/\s.time<=1000099:=by
 obtain⟨i,r,b,j,_,e,a,o,t⟩:=h;obtain⟨n,c⟩:=Cn k j b;have:=rF m (i:Int) b (u:=2) (d:=3) (l:=4) (by decide);rw[e,a];exact⟨n,c,by omega,by omega⟩
def mn.same{m:ak}(w:cP m){s a:cS}(h:mn m s)(k:mn m a)(t:s.gX=a.gX)(o:s.from_=a.from_):s=a:=by
 obtain⟨i,r,b,d,a1,B,n,A,_⟩:=h;obtain⟨y,D,j,c,c1,u,C,x,_⟩:=k;have e:i=y:=by omega
 subst e;rw[d] at c;injection c with c
 subst c;have E:=(w.2.2.2 r (fC d)).1.2.2.2.2;have l:b=j:=by
  cases b <;> cases j <;> simp at B u <;> first |rfl |(exfalso;omega)
 subst l;cases s;cases a
 simp only[cS.mk.injEq];dsimp only at*;exact⟨t,o,by rw[n,C],by rw[A,x]⟩
def aol{m:ak}{o:bE}(ab:lH m o):Ok (w9 LC m o) λf=>mA f m.ai.length/\∀a,a∈f.steps->mn m a:=by
 obtain⟨F,C,z,X,_⟩:=ab;have ad:=F.1;have ag:=F.2.1;unfold w9;rw[nS (by omega) (by omega),aa,aa,dk];refine aD (Q:=λe:List Bool=>e.length=m.ai.length) ?_ λM ac=>?_
 .refine di m.ai.length (λi a=>a.2=(i:Int)/\a.1.length=m.ai.length) _ (λi a y n=>?_) (λa n=>?_) _ ⟨rfl,e6⟩
  .obtain⟨d,h⟩:=a;obtain⟨rfl,l⟩:=n;dsimp only at l⊢;unfold u5;rw[aC,bn,c6 y,aa,bn,c6 (show i<d.length by omega),aa,dk,c6 (show i<d.length by omega),aa,aJ];exact ae ⟨rfl,by rw[dT];exact l⟩
  .obtain⟨d,h⟩:=a;obtain⟨rfl,l⟩:=n;dsimp only at l⊢;unfold u5;rw[aG];exact ae l
 have I:∀(u:List Int) (g:List Bool->Int->Option ((List Bool×Int)⊕List Bool)) (B:List Bool),cj 0 ((m.ai.length:Int) -1) u->(∀d h,g d h=bif c5 (h<(u.length:Int)) then(aj u h).bind λq=>(aj d q).bind λ_=>(d[q.toNat]?).bind λ_=>c7 (.inl (d.set q.toNat true,c3 c4 (h+1))) else c7 (.inr d))->B.length=m.ai.length->Ok (bO (λa:List Bool×Int=>g a.1 a.2) (B,0)) λe=>e.length=m.ai.length:=by
  intro u g B A H U;have al:=A.len (by omega);refine di u.length (λi a=>a.2=(i:Int)/\a.1.length=m.ai.length) _ (λi a y n=>?_) (λa n=>?_) _ ⟨rfl,U⟩
  .obtain⟨d,h⟩:=a;obtain⟨rfl,l⟩:=n;dsimp only at l⊢;have v:=c6 y;have J:=A.mem (dd y);generalize u[i]=q at v J;have G:d[q.toNat]?=c7 (d[q.toNat]'(by omega)):=c6 (by omega);have R:aj d q=c7 (d[q.toNat]'(by omega)):=by unfold aj;rw[if_pos J.1];exact G
   rw[H,aC,bn,v,aa,R,aa,G,aa,aJ];exact ae ⟨rfl,by rw[dT];exact l⟩
  .obtain⟨d,h⟩:=a;obtain⟨rfl,l⟩:=n;dsimp only at l⊢;rw[H,aG];exact ae l
 refine aD (I o.akL (λd h=>wU LC o d h) M C (λd h=>rfl) ac) λj V=>?_
 refine aD (I o.dg (λd h=>wu LC o d h) (ee m.ai.length false) z (λd h=>rfl) e6) λk N=>?_
 have am:=X.len (by omega);refine aD (Q:=λe=>∃c,e=iC (cm.mk (m.ai.length:Int) c j k)/\c.length<=2*m.af.length/\∀a,a∈c->mn m a) ?_ λe s=>?_
 .refine di m.af.length (λi a=>∃c,a=nC (cm.mk (m.ai.length:Int) c j k) (i:Int)/\c.length<=2*i/\∀a,a∈c->mn m a) _ (λi a y n=>?_) (λa n=>?_) _ ⟨[],rfl,h9 _,λa x=>by cases x⟩
  .obtain⟨c,rfl,E,t⟩:=n;have v:=c6 y;generalize m.af[i]=r at v;show Ok (pS LC m o j k (cm.mk (m.ai.length:Int) c j k) (i:Int)) _
   unfold pS;rw[aC,bn,v,aa,contains_eq (by show o.dG.length<=_;omega),aa];have fin:∀(e:lU) p,e=iC (cm.mk (m.ai.length:Int) p j k)->p.length<=2*(i+1)->(∀a,a∈p->mn m a)->Ok (c7 (m0 (nC (ox j k e) (c3 c4 ((i:Int)+1))))) λe:pE⊕lU=>match e with
    | .inl S=>∃c,S=nC (cm.mk (m.ai.length:Int) c j k) ((i+1:Nat):Int)/\c.length<=2*(i+1)/\∀a,a∈c->mn m a
    | .inr e=>∃c,e=iC (cm.mk (m.ai.length:Int) c j k)/\c.length<=2*m.af.length/\∀a,a∈c->mn m a:=λe p s C z=>by
    subst s;rw[aJ];exact ae ⟨p,rfl,C,z⟩
   by_cases L:(i:Int)∈o.dG
   .rw[aC L,aa];exact WI (fin _ c rfl (by omega) t) λe s=>by cases e <;> exact s
   .rw[aG L,AF,aa];have K:∀(c:List cS) (b:Bool),c.length<=2*i+1->(∀a,a∈c->mn m a)->∃p,(bif c5 (0<=wT m (i:Int) b 2 3 4) then(bj 32 c ([(cS.mk (i:Int) (if b then r.To else r.an) (if b then r.an else r.To) (wT m (i:Int) b 2 3 4))]:List cS)).bind λY=>c7 (iC (cm.mk (m.ai.length:Int) Y j k)) else c7 (iC (cm.mk (m.ai.length:Int) c j k)))=c7 (iC (cm.mk (m.ai.length:Int) p j k))/\p.length<=c.length+1/\∀a,a∈p->mn m a:=λc b A x=>by
     by_cases D:0<=wT m (i:Int) b 2 3 4
     .rw[aC D,dm (by decide) (by omega),aa];refine⟨_,rfl,by simp,λa w=>?_⟩
      rcases e4.1 w with w |w
      .exact x a w
      .rw[e0] at w;subst w;exact⟨i,r,b,v,rfl,rfl,rfl,rfl,D⟩
     .rw[aG D];exact⟨c,rfl,by omega,x⟩
    obtain⟨O,P,ah,Z⟩:=K c false (by omega) t;obtain⟨T,W,ai,af⟩:=K O true (by omega) Z;refine c8 (m:=r3 _ _) ?_ (WI (fin _ T rfl (by omega) af) λe s=>by cases e <;> exact s)
    refine(dL P).trans ?_
    show((nK LC m (i:Int) true).bind _)=_
    rw[AF,aa];exact(dL W).trans rfl
  .obtain⟨c,rfl,E,t⟩:=n;show Ok (pS LC m o j k (cm.mk (m.ai.length:Int) c j k) (m.af.length:Int)) _
   unfold pS;rw[aG];exact ae ⟨c,rfl,E,t⟩
 .obtain⟨c,rfl,E,t⟩:=s;exact ae ⟨⟨rfl,ad,V,N,by show c.length<=300;omega,λa x=>(t a x).ok F⟩,t⟩
def ahu{b:ak}{c:bE}:DM LC b c=(w9 LC b c).bind λf=>c7 (JJ f):=by
 unfold DM w9;cases k:(gP 1 false (b.ai.length:Int)) with
 |none=>rfl
 |some g=>
  simp only[aa];show((bO (λa:List Bool×Int=>u5 LC b a.1 a.2) (g,0)).bind _)=((bO (λa:List Bool×Int=>u5 LC b a.1 a.2) (g,0)).bind _).bind _
  cases j:bO (λa:List Bool×Int=>u5 LC b a.1 a.2) (g,0) with
  |none=>rfl
  |some h=>
   simp only[aa];show((bO (λa:List Bool×Int=>wU LC c a.1 a.2) (h,0)).bind _)=((bO (λa:List Bool×Int=>wU LC c a.1 a.2) (h,0)).bind _).bind _
   cases i:bO (λa:List Bool×Int=>wU LC c a.1 a.2) (h,0) with
   |none=>rfl
   |some d=>
    simp only[aa];show((bO (λa:List Bool×Int=>wu LC c a.1 a.2) (g,0)).bind _)=((bO (λa:List Bool×Int=>wu LC c a.1 a.2) (g,0)).bind _).bind _
    cases l:bO (λa:List Bool×Int=>wu LC c a.1 a.2) (g,0) with
    |none=>rfl
    |some e=>
     simp only[aa];show((bO (λa:pE=>pS LC b c d e (wK d e a) (wo a)) (nC (cm.mk (b.ai.length:Int) [] d e) 0)).bind _)=((bO (λa:pE=>pS LC b c d e (wK d e a) (wo a)) (nC (cm.mk (b.ai.length:Int) [] d e) 0)).bind _).bind _
     cases bO (λa:pE=>pS LC b c d e (wK d e a) (wo a)) (nC (cm.mk (b.ai.length:Int) [] d e) 0) <;> rfl
def jF{b:Type}{a:List b}{i:Int}(c:b)(h0:0<=i)(d:i<(a.length:Int)):aj a i=c7 (a.getD i.toNat c):=by
 unfold aj;rw[if_pos h0,ec,c6 (by omega)]
 rfl
def get_at{b:Type}{a:List b}{i:Int}(c:b)(h0:0<=i)(d:i<(a.length:Int)):a[i.toNat]?=c7 (a.getD i.toNat c):=by
 rw[ec,c6 (by omega)]
 rfl
def jl(f:cm)(a:cS):Bool:=!(f.safe.getD a.from_.toNat false)&&!(f.bad.getD a.b9.toNat false)
def SH{f:cm}{d:Nat}(b:mA f d){a:cS}(g:a∈f.steps):wJ LC f a=c7 (jl f a):=by
 obtain⟨e,c,_⟩:=b.st a g;have i:=b.safe;have h:=b.bad;unfold wJ jl;rw[jF false e.1 (by omega),aa,jF false c.1 (by omega),aa];cases f.safe.getD a.from_.toNat false <;> rfl
abbrev ig:da:=⟨0,0⟩
def cg(a:List da)(p:Int):da:=a.getD p.toNat ig
def kp(a b:da):Prop:=a.time<b.time\/(a.time=b.time/\a.roads<b.roads)
instance (a b:da):Decidable (kp a b):=by unfold kp;infer_instance
def kx(a:da)(b:cS):da:=⟨a.time+b.time,a.roads+1⟩
def W6(c b:da):zX LC c b=c7 (c5 (kp c b)):=by
 unfold zX
 by_cases d:c.time<b.time
 .rw[aC d,decide_eq_true (show kp c b from .inl d)]
 rw[aG d]
 by_cases e:c.time=b.time
 .rw[aC e]
  congr 1
  exact decide_eq_decide.2 ⟨λa=>.inr ⟨e,a⟩,λa=>a.elim (λa=>absurd a d) λa=>a.2⟩
 .rw[aG e,decide_eq_false (show ¬kp c b from λa=>a.elim d λa=>e a.1)]
def alH{a:List da}{p q:Int}{v:da}(e:0<=p)(c:0<=q)(d:q<(a.length:Int)):cg (a.set q.toNat v) p=if p=q then v else cg a p:=by
 unfold cg;rw[ec,hK]
 by_cases b:p=q
 .subst b;rw[if_pos rfl,if_pos rfl,if_pos (by omega)]
  rfl
 .rw[if_neg b,if_neg (by omega),ec]
def mv(a:da):Nat:=(a.time*1180591620717411303424+a.roads).toNat
def mu(a:List da):Nat:=(a.map mv).sum
def RF:∀(a:List da) (b:Nat) (v:da),b<a.length->mv v<mv (a.getD b ig)->mu (a.set b v)<mu a
 |[],b,v,c,_=>absurd c (by simp)
 |e::a,0,v,_,d=>by
  unfold mu;simp only[hY,km,o3,List.getD_cons_zero] at d⊢;omega
 |e::a,b+1,v,c,d=>by
  have f:=RF a b v (by simpa using c) (by simpa using d);unfold mu at f⊢;simp only[l2,km,o3];omega
structure CI (f:cm) (n:Nat) (c:List da):Prop where
 len:c.length=n
 oV:∀p:Int,0<=p->p<(n:Int)->0<=(cg c p).roads/\(cg c p).roads<=(cg c p).time/\(cg c p).time<=(1152921504606846976:Int)/\((cg c p).time=(1152921504606846976:Int)->(cg c p).roads=0)
 sf:∀p:Int,0<=p->p<(n:Int)->f.safe.getD p.toNat false=true->cg c p=ig
 Ts:∀p:Int,0<=p->p<(n:Int)->f.safe.getD p.toNat false=false->(cg c p).time<(1152921504606846976:Int)->∃s,s∈f.steps/\s.from_=p/\jl f s=true/\¬kp (cg c p) (kx (cg c s.b9) s)
def ae7{f:cm}{d:Nat}(q:mA f d):Ok (bO (λc:List da×Int=>zV LC (ee d ig) f c.1 c.2) (ee d ig,0)) (CI f d):=by
 have u:=q.sM;have v:=q.safe;refine di d (λi c=>c.2=(i:Int)/\c.1.length=d/\∀p:Nat,p<d->c.1.getD p ig=if p<i/\f.safe.getD p false=false then⟨(1152921504606846976:Int),0⟩ else ig) _ (λi c t n=>?_) (λc n=>?_) _ ⟨rfl,e6,λp k=>?_⟩
 .obtain⟨r,a⟩:=c;obtain⟨rfl,g,e⟩:=n;dsimp only at g e⊢;unfold zV;have s:=e i t;rw[if_neg (by omega)] at s;rw[aC (by rw[e6];omega),jF false (by omega) (by omega),aa,jF ig (by omega) (by omega),aa,get_at ig (by omega) (by omega),aa,dk,s,aJ];cases h:f.safe.getD i false with
  |true=>
   simp only[ey,cond_false,aa];refine ae ⟨rfl,g,λp k=>?_⟩
   dsimp only;rw[e p k]
   by_cases l:p=i
   .subst l;rw[if_neg (by omega),if_neg (by rw[h];simp)]
   .have:(p<i/\f.safe.getD p false=false)↔(p<i+1/\f.safe.getD p false=false):=⟨λa=>⟨by omega,a.2⟩,λa=>⟨by omega,a.2⟩⟩
    by_cases b:p<i/\f.safe.getD p false=false
    .rw[if_pos b,if_pos (this.1 b)]
    .rw[if_neg b,if_neg (λa=>b (this.2 a))]
  |false=>
   simp only[k7,cond_true,aa];refine ae ⟨rfl,by dsimp only;rw[dT];exact g,λp k=>?_⟩
   dsimp only;rw[ec,hK]
   by_cases l:i=p
   .subst l;rw[if_pos rfl,if_pos (by omega),if_pos ⟨by omega,h⟩]
    rfl
   .rw[if_neg l, <-ec,e p k];have:(p<i/\f.safe.getD p false=false)↔(p<i+1/\f.safe.getD p false=false):=⟨λa=>⟨by omega,a.2⟩,λa=>⟨by omega,a.2⟩⟩
    by_cases b:p<i/\f.safe.getD p false=false
    .rw[if_pos b,if_pos (this.1 b)]
    .rw[if_neg b,if_neg (λa=>b (this.2 a))]
 .obtain⟨r,a⟩:=c;obtain⟨rfl,g,e⟩:=n;dsimp only at g e⊢;unfold zV;rw[aG (by rw[e6];omega)];have m:∀p:Int,0<=p->p<(d:Int)->cg r p=if f.safe.getD p.toNat false=false then⟨(1152921504606846976:Int),0⟩ else ig:=λp h0 j=>by
   unfold cg;rw[e p.toNat (by omega)]
   by_cases b:f.safe.getD p.toNat false=false
   .rw[if_pos b,if_pos ⟨by omega,b⟩]
   .rw[if_neg b,if_neg (λa=>b a.2)]
  refine ae ⟨g,λp h0 j=>?_,λp h0 j h=>?_,λp h0 j h o=>?_⟩
  .rw[m p h0 j]
   split <;> simp
  .rw[m p h0 j,h];rfl
  .rw[m p h0 j,if_pos h] at o;exact absurd o (by simp)
 .rw[if_neg (by omega),ec,hB,if_pos k]
  rfl
def ab5{f:cm}{n:Nat}(C:mA f n){e:List da}(h0:CI f n e):Ok (bO (λa:List da×Bool×Int=>AB LC f a.1 a.2.1 a.2.2) (e,false,0)) λw=>CI f n w.1/\(w.2=true->mu w.1<mu e)/\(w.2=false->w.1=e/\∀a,a∈f.steps->jl f a=true->(cg e a.b9).time<(1152921504606846976:Int)->¬kp (kx (cg e a.b9) a) (cg e a.from_)):=by
 have ab:=C.num;refine di f.steps.length (λi a=>a.2.2=(i:Int)/\CI f n a.1/\(a.2.1=true->mu a.1<mu e)/\(a.2.1=false->a.1=e/\∀(j:Nat) h,j<i->f.steps[j]?=c7 h->jl f h=true->(cg e h.b9).time<(1152921504606846976:Int)->¬kp (kx (cg e h.b9) h) (cg e h.from_))) _ (λi a K H=>?_) (λa H=>?_) _ ⟨rfl,h0,(by intro d;cases d),λ_=>⟨rfl,λj h s=>absurd s (by omega)⟩⟩
 .obtain⟨c,b,m⟩:=a;obtain⟨rfl,g,q,k⟩:=H;dsimp only at g q k⊢;have F:=c6 K;have D:=dd K;generalize f.steps[i]=a at F D;obtain⟨y,z,ac,ag⟩:=C.st a D;have U:=g.len;have af:=g.oV a.b9 z.1 z.2;have R:=g.oV a.from_ y.1 y.2;unfold AB;rw[aC,bn,F,aa,jF ig z.1 (by omega),aa,get_at ig z.1 (by omega),aa,aa,aa,SH C D,aa];rw[jF ig y.1 (by omega),get_at ig y.1 (by omega)];rw[show p6 c a.b9.toNat ig=cg c a.b9 from rfl,show p6 c a.from_.toNat ig=cg c a.from_ from rfl,aJ (n:=(cg c a.b9).time+a.time),aJ (n:=(cg c a.b9).roads+1)];simp only[aa,W6];have S:(bif jl f a then(bif c5 ((cg c a.b9).time<1152921504606846976) then c7 (c5 (kp (da.mk ((cg c a.b9).time+a.time) ((cg c a.b9).roads+1)) (cg c a.from_))) else c7 false) else c7 false)=c7 (c5 (jl f a=true/\(cg c a.b9).time<(1152921504606846976:Int)/\kp (kx (cg c a.b9) a) (cg c a.from_))):=by
   cases r:jl f a with
   |false=>simp
   |true=>
    simp only[cond_true,true_and]
    by_cases B:(cg c a.b9).time<(1152921504606846976:Int)
    .rw[aC B]
     congr 1
     exact decide_eq_decide.2 ⟨λm=>⟨B,m⟩,λm=>m.2⟩
    .rw[aG B,decide_eq_false (λm=>B m.1)]
  refine c8 S ?_
  by_cases u:jl f a=true/\(cg c a.b9).time<(1152921504606846976:Int)/\kp (kx (cg c a.b9) a) (cg c a.from_)
  .rw[aC u,aa,aJ];obtain⟨u1,u2,u3⟩:=u;have Y:a.b9≠a.from_:=λd=>by
    rw[d] at u3;rcases u3 with u3 |u3
    .have:(cg c a.from_).time+a.time<(cg c a.from_).time:=u3;omega
    .have:(cg c a.from_).time+a.time=(cg c a.from_).time:=u3.1;omega
   have ad:(cg c a.b9).time+a.time<(1152921504606846976:Int):=by
    rcases u3 with u3 |u3
    .have:(cg c a.b9).time+a.time<(cg c a.from_).time:=u3;omega
    .have V:(cg c a.b9).time+a.time=(cg c a.from_).time:=u3.1;have N:(cg c a.b9).roads+1<(cg c a.from_).roads:=u3.2;have Z:=R.2.2.2;omega
   have W:f.safe.getD a.from_.toNat false=false:=by
    unfold jl at u1;cases d:f.safe.getD a.from_.toNat false with
    |false=>rfl
    |true=>rw[d] at u1;simp at u1
   have o:∀p:Int,0<=p->cg (c.set a.from_.toNat (da.mk ((cg c a.b9).time+a.time) ((cg c a.b9).roads+1))) p=if p=a.from_ then kx (cg c a.b9) a else cg c p:=λp A=>alH A y.1 (by omega)
   have G:mu (c.set a.from_.toNat (da.mk ((cg c a.b9).time+a.time) ((cg c a.b9).roads+1)))<mu c:=by
    refine RF _ _ _ (by omega) ?_
    show mv (kx (cg c a.b9) a)<mv (cg c a.from_)
    unfold mv kx;dsimp only;rcases u3 with u3 |u3
    .have:(cg c a.b9).time+a.time<(cg c a.from_).time:=u3;omega
    .have V:(cg c a.b9).time+a.time=(cg c a.from_).time:=u3.1;have N:(cg c a.b9).roads+1<(cg c a.from_).roads:=u3.2;omega
   refine ae ⟨by dsimp only;omega,⟨by dsimp only;rw[dT];exact U,λp l x=>?_,λp l x t=>?_,λp l x t E=>?_⟩,λ_=>?_,(by intro d;cases d)⟩
   .dsimp only;rw[o p l]
    split
    .unfold kx;dsimp only;omega
    .exact g.oV p l x
   .dsimp only;rw[o p l,if_neg (λd=>by rw[d,W] at t;cases t)];exact g.sf p l x t
   .dsimp only at E⊢;rw[o p l] at E⊢
    by_cases A:p=a.from_
    .rw[if_pos A];refine⟨a,D,A.symm,u1,?_⟩
     rw[o _ z.1,if_neg Y];intro d;rcases d with d |d
     .exact absurd d (q6 _)
     .exact absurd d.2 (q6 _)
    .rw[if_neg A] at E⊢;obtain⟨v,J,P,M,I⟩:=g.Ts p l x t E;refine⟨v,J,P,M,?_⟩
     rw[o _ (C.st v J).2.1.1]
     split
     .rename_i O;intro d;refine I ?_
      rw[O];unfold kp kx at d u3⊢;dsimp only at d u3⊢;omega
     .exact I
   .dsimp only;cases b with
    |true=>exact Nat.lt_trans G (q rfl)
    |false=>rw[(k rfl).1] at G⊢;exact G
  .rw[aG u,aa,aJ];refine ae ⟨by dsimp only;omega,g,q,λd=>⟨(k d).1,λj h s r=>?_⟩⟩
   by_cases T:j<i
   .exact(k d).2 j h T r
   .have:j=i:=by omega
    subst this;rw[F] at r;injection r with r
    subst r;rw[(k d).1] at u;exact λX Q L=>u ⟨X,Q,L⟩
 .obtain⟨c,b,m⟩:=a;obtain⟨rfl,g,q,k⟩:=H;dsimp only at g q k⊢;unfold AB;rw[aG];refine ae ⟨g,q,λd=>⟨(k d).1,λa o=>?_⟩⟩
  obtain⟨j,s,rfl⟩:=e5.1 o;exact(k d).2 j _ s (c6 s)
structure N7 (f:cm) (n:Nat) (c:List da):Prop where
 ci:CI f n c
 nx:∀p:Int,0<=p->p<(n:Int)->f.safe.getD p.toNat false=false->(cg c p).time<(1152921504606846976:Int)->∃s,s∈f.steps/\s.from_=p/\jl f s=true/\cg c p=kx (cg c s.b9) s
def ajU{f:cm}{j:Nat}(e:mA f j):Ok (Bg LC f) (N7 f j):=by
 have I:=e.sM;unfold Bg;rw[e.MP,nS (by omega) (by omega),aa,dk];refine aD (ae7 e) λG B=>?_
 refine aD (Q:=N7 f j) ?_ λF t=>ae t
 refine oa (λa=>CI f j a.1/\(a.2=false->∀c,c∈f.steps->jl f c=true->(cg a.1 c.b9).time<(1152921504606846976:Int)->¬kp (kx (cg a.1 c.b9) c) (cg a.1 c.from_))) (λa=>2*mu a.1+(if a.2 then 1 else 0)) _ (λa A=>?_) _ ⟨B,(by intro l;cases l)⟩
 obtain⟨g,b⟩:=a;obtain⟨d,m⟩:=A;dsimp only at d m⊢;unfold Tg;cases b with
 |true=>
  rw[cond_true];refine aD (ab5 e d) λw i=>ae ⟨⟨i.1,λl=>?_⟩,?_⟩
  .obtain⟨C,x⟩:=i.2.2 l;dsimp only;rw[C];exact x
  .dsimp only;cases n:w.2 with
   |true=>have:=i.2.1 n;simp;omega
   |false=>rw[(i.2.2 n).1];simp
 |false=>
  rw[cond_false];refine ae ⟨d,λp u y v E=>?_⟩
  obtain⟨a,k,q,o,h⟩:=d.Ts p u y v E;obtain⟨J,r,H,L⟩:=e.st a k;have K:=d.oV a.b9 r.1 r.2;refine⟨a,k,q,o,?_⟩
  have D:(cg g a.b9).time<(1152921504606846976:Int):=by
   unfold kp kx at h;dsimp only at h;omega
  have:=m rfl a k o D;rw[q] at this;unfold kp kx at h this;unfold kx;dsimp only at h this;have s:(cg g p).time=(cg g a.b9).time+a.time:=by omega
  have z:(cg g p).roads=(cg g a.b9).roads+1:=by omega
  rw[<-s, <-z]
def lL(f:cm):Int->List cS->Int->Prop
 |c,[],b=>c=b
 |c,a::d,b=>a∈f.steps/\jl f a=true/\a.from_=c/\lL f a.b9 d b
def lL.snoc{f:cm}:∀{a:Int} {j:List cS} {b:Int},lL f a j b->∀{s:cS},s∈f.steps->jl f s=true->s.from_=b->lL f a (j++[s]) s.b9
 |a,[],b,h,s,e,d,c=>⟨e,d,c.trans (show a=b from h).symm,rfl⟩
 |a,k::j,b,h,s,e,d,c=>⟨h.1,h.2.1,h.2.2.1,lL.snoc h.2.2.2 e d c⟩
def gz(a:List cS):Int:=(a.map (·.time)).sum
structure mC (f:cm) (p:Int) (ss:List cS):Prop where
 ex:∃q,lL f p ss q/\0<=q/\f.safe.getD q.toNat false=true
 nd:(p::ss.map (·.b9)).Nodup
def lL.mem{f:cm}:∀{a:Int} {d:List cS} {b:Int},lL f a d b->∀s,s∈d->s∈f.steps/\jl f s=true
 |a,[],b,h,s,c=>by cases c
 |a,e::d,b,h,s,c=>by
  rcases kl.1 c with rfl |c
  .exact⟨h.1,h.2.1⟩
  .exact lL.mem h.2.2.2 s c
def Rv{n:Nat}{b:List Int}(c:b.Nodup)(e:∀a,a∈b->0<=a/\a<(n:Int)):b.length<=n:=by
 have:=Fb b ((List.range n).map Int.ofNat) c λa d=>by
  obtain⟨h0,f⟩:=e a d;exact j9.2 ⟨a.toNat,n1.2 (by omega),by show(a.toNat:Int)=a;omega⟩
 simpa using this
def mC.len{f:cm}{n:Nat}(e:mA f n){p:Int}(k:0<=p/\p<(n:Int)){c:List cS}(h:mC f p c):c.length<n:=by
 obtain⟨q,d,_⟩:=h.ex;have:=Rv (n:=n) h.nd λx a=>by
  rcases kl.1 a with rfl |a
  .exact k
  .obtain⟨s,j,rfl⟩:=j9.1 a;exact(e.st s (d.mem s j).1).2.1
 simp at this;omega
def KZ{f:cm}{g:Nat}(b:mA f g):∀{ss:List cS},(∀a,a∈ss->a∈f.steps)->0<=gz ss/\gz ss<=1000099*(ss.length:Int)
 |[],_=>by simp[gz]
 |a::ss,c=>by
  have h:=KZ b (ss:=ss) λe d=>c e (by simp[d])
  have:=(b.st a (c a (by simp))).2.2;unfold gz at h⊢;simp only[km,o3,eH];omega
def amX(a:List cS)(b:cS):gz (a++[b])=gz a+b.time:=by
 unfold gz;rw[hq,List.sum_append];simp
def sG(f:cm)(b:List da)(c:Int)(a:cS):Bool:=c5 (a.from_=c/\jl f a=true/\(cg b a.b9).time=(cg b c).time -a.time/\(cg b a.b9).roads=(cg b c).roads -1)
def ab4{f:cm}{n:Nat}(i:mA f n){c:List da}(e:CI f n c){a:Int}(g:0<=a/\a<(n:Int)){b:cS}(j:b∈f.steps):EN LC b a f c=c7 (sG f c a b):=by
 obtain⟨l,h,p,s⟩:=i.st b j;have m:=e.len;have r:=e.oV b.b9 h.1 h.2;have q:=e.oV a g.1 g.2;unfold EN sG
 by_cases d:b.from_=a
 rotate_left
 .rw[aG d,decide_eq_false (λk=>d k.1)]
 rw[aC d,SH i j,aa];cases o:jl f b with
 |false=>rw[cond_false,decide_eq_false (by simp)]
 |true=>
  rw[cond_true,jF ig h.1 (by omega),aa,jF ig g.1 (by omega)];simp only[aa];rw[show p6 c b.b9.toNat ig=cg c b.b9 from rfl,show p6 c a.toNat ig=cg c a from rfl,aJ (n:=(cg c a).time -b.time),aJ (n:=(cg c a).roads -1)]
  congr 1
  rw[mx];simp[d]
def LA{f:cm}{n:Nat}(h:mA f n){p:Int}(y:0<=p/\p<(n:Int)):Ok (yN LC f p) λr=>r.2.2.2=true->∃a,mC f p a/\r.1=a.map (·.gX)/\r.2.1=p::a.map (·.b9)/\r.2.2.1=gz a:=by
 have Y:=h.sM;have ad:=h.safe;have V:=h.num;unfold yN;refine aD (ajU h) λc j=>?_
 have U:=j.ci.len;rw[jF ig y.1 (by omega),aa];refine aV (λ_=>ae (by intro O;cases O)) (λL=>?_)
 have H:(cg c p).time<(1152921504606846976:Int):=by
  have:¬(1152921504606846976:Int)<=(cg c p).time:=L;omega
 refine aD (Q:=λt=>∃a,mC f p a/\t.2=a.map (·.gX)/\t.1=p::a.map (·.b9)/\(cg c p).time=gz a) ?_ λt M=>?_
 .refine oa (λb=>∃a,lL f p a b.2.2/\(p::a.map (·.b9)).Nodup/\b.2.1=a.map (·.gX)/\b.1=p::a.map (·.b9)/\(cg c p).time=gz a+(cg c b.2.2).time/\(0<=b.2.2/\b.2.2<(n:Int))/\(cg c b.2.2).time<(1152921504606846976:Int)/\∀q,q∈p::a.map (·.b9)->(cg c b.2.2).roads<=(cg c q).roads) (λb=>(cg c b.2.2).roads.toNat) _ (λb K=>?_) _ ⟨[],(by show p=p;rfl),by simp,rfl,rfl,by simp[gz],y,H,λq d=>by simp at d;rw[d];exact fe _⟩
  obtain⟨W,af,at_⟩:=b;obtain⟨a,k,l,rfl,rfl,u,e,A,x⟩:=K;dsimp only at k u e A x⊢;have N:=k.mem;have P:(p::a.map (·.b9)).length<=n:=Rv l λD g=>by
   rcases kl.1 g with rfl |g
   .exact y
   .obtain⟨b,o,rfl⟩:=j9.1 g;exact(h.st b (N b o).1).2.1
  have ai:a.length+1<=n:=by simpa using P
  unfold Lo;rw[jF false e.1 (by omega),aa];cases v:f.safe.getD at_.toNat false with
  |true=>
   simp only[ey,cond_false];refine ae ⟨a,⟨⟨at_,k,e.1,v⟩,l⟩,rfl,rfl,?_⟩
   rw[u,j.ci.sf _ e.1 e.2 v];exact q7 _
  |false=>
   simp only[k7,cond_true];obtain⟨m,u1,u2,u3,u4⟩:=j.nx at_ e.1 e.2 v A;have w:Aj LC f.steps at_ f c=c7 (gg (sG f c at_) f.steps):=by
    unfold Aj;exact fF (by omega) (λD g=>ab4 h j.ci e g) λb=>rfl
   have G:0<=gg (sG f c at_) f.steps:=Aw.2 ⟨m,u1,by
    unfold sG;refine decide_eq_true ⟨u2,u3,?_,?_⟩
    .rw[u4];show _=(cg c m.b9).time+m.time -m.time;omega
    .rw[u4];show _=(cg c m.b9).roads+1 -1;omega⟩
   obtain⟨i,b,F,o,z,_⟩:=HN G;have C:=fC o;obtain⟨Z,s,X,ah⟩:=h.st b C;unfold sG at z;obtain⟨I,E,ag,T⟩:=of_decide_eq_true z;have S:=j.ci.oV at_ e.1 e.2;have ac:=j.ci.oV b.b9 s.1 s.2;rw[w,aa,F,bn,o];simp only[aa];rw[pN (by simp;omega),aa,pN (by simp;omega),aa];refine ae ⟨⟨a++[b],k.snoc C E I,?_,by simp,by simp,?_,s,?_,?_⟩,?_⟩
   .rw[hq, <-m4,oo];refine⟨l,by simp,λD g ab B=>?_⟩
    simp at B;subst B;intro w;subst w;have:=x _ g;omega
   .dsimp only;rw[amX,u];omega
   .dsimp only;omega
   .dsimp only;intro q d;rw[hq, <-m4] at d;rcases e4.1 d with d |d
    .have:=x q d;omega
    .simp at d;rw[d];exact fe _
   .dsimp only;omega
 .obtain⟨a,k,l,J,R⟩:=M;rw[aa];exact ae λ_=>⟨a,k,l,J,R⟩
def acq{b:List cS}{a:List Int}(g:b.length<=300)(h:a.length<=300):Bm LC b a=c7 (b.filter λc=>!c5 (c.gX∈a)):=by
 have e:∀d,d∈b->ye LC d a=c7 (c5 (d.gX∈a)):=λd _=>by
  unfold ye;rw[contains_eq (by show a.length<=_;omega),aa]
 unfold Bm;have f:AM LC b a=c7 (gg (λc=>c5 (c.gX∈a)) b):=by
  unfold AM;exact fF (by omega) e λc=>rfl
 rw[f,aa];exact Hs (by omega) e λc i j=>rfl
def mC.up{f g:cm}(o:∀s,s∈g.steps->s∈f.steps)(d:g.safe=f.safe)(e:∀k,f.bad.getD k false=true->g.bad.getD k false=true){p:Int}{a:List cS}(h:mC g p a):mC f p a:=by
 obtain⟨q,j,x,n⟩:=h.ex;refine⟨⟨q,?_,x,by rw[<-d];exact n⟩,h.nd⟩
 have key:∀(a:List cS) (p:Int),lL g p a q->lL f p a q:=by
  intro a
  induction a with
  |nil=>exact λp h=>h
  |cons s a t=>
   intro p h;obtain⟨u,c,m,w⟩:=h;refine⟨o s u,?_,m,t _ w⟩
   unfold jl at c⊢;rw[d] at c;have:=e s.b9.toNat;cases l:f.bad.getD s.b9.toNat false with
   |false=>rw[k7,Bool.and_true];exact(j3 _ _▸c).1
   |true=>rw[this l] at c;simp at c
 exact key a p j
structure xU (m:ak) (e:bE) (p:Int) (r:List Int×List Int×ju) (ss1 ss2:List cS) (f:cm):Prop where
 there:lH m e/\0<=p/\p<=(m.ai.length:Int) -1
 find:w9 LC m e=c7 f
 fin:mA f m.ai.length
 so:∀s,s∈f.steps->mn m s
 p1:mC f p ss1
 p2:mC f p ss2
 r1:r.1=ss1.map (·.gX)
 r2:r.2.1=ss2.map (·.gX)
 t:r.2.2=⟨gz ss1,gz ss2⟩
 dis:∀s,s∈ss2->s.gX∉ss1.map (·.gX)
def S9{m:ak}{e:bE}{p:Int}(R:lO e)(V:Fit m.ai):Ok (r7 LC m e p) λr=>(r.2.2.2=false->r.1=[]/\r.2.1=[])/\(r.2.2.2=true->∃O t f,xU m e p (r.1,r.2.1,r.2.2.1) O t f):=by
 unfold r7;rw[ahk R V,aa]
 by_cases d:lH m e/\0<=p/\p<=(m.ai.length:Int) -1
 rotate_left
 .rw[decide_eq_false d];exact ae ⟨λ_=>⟨rfl,rfl⟩,by intro c;cases c⟩
 rw[decide_eq_true d,ey,cond_false,ahu];obtain⟨f,y,b,G⟩:=aol d.1;rw[y,aa,aa];dsimp only;rw[show Lk (JJ f)=f from rfl];have X:=b.safe;have Z:=b.sM;have L:=b.bad;rw[jF false d.2.1 (by omega),aa];cases A:f.safe.getD p.toNat false with
 |true=>exact ae ⟨(by intro c;cases c),λ_=>⟨[],[],f,d,y,b,G,⟨⟨p,rfl,d.2.1,A⟩,by simp⟩,⟨⟨p,rfl,d.2.1,A⟩,by simp⟩,rfl,rfl,rfl,λa k=>by cases k⟩⟩
 |false=>
  rw[cond_false];have z:0<=p/\p<(m.ai.length:Int):=⟨d.2.1,by omega⟩;refine aD (LA b z) λr s=>?_
  obtain⟨U,N,I,w⟩:=r;dsimp only at s⊢;cases w with
  |false=>exact ae ⟨λ_=>⟨rfl,rfl⟩,by intro c;cases c⟩
  |true=>
   obtain⟨j,u,rfl,rfl,rfl⟩:=s rfl;have ac:=u.len b z;obtain⟨q,M,_⟩:=u.ex;rw[ey,cond_false,l8 (by omega) (by simp;omega) (by omega),aa];refine aD (Q:=λo:List Bool=>o.length=m.ai.length/\∀h,f.bad.getD h false=true->o.getD h false=true) ?_ λo F=>?_
   .have E:(((p::j.map (·.b9)).drop ((1:Int).toNat)).take ((((p::j.map (·.b9)).length:Int)).toNat - (1:Int).toNat))=j.map (·.b9):=by
     rw[show((1:Int).toNat)=1 from rfl,List.drop_one,List.tail_cons,hM (by simp)]
    refine di j.length (λi a=>a.2=(i:Int)/\a.1.length=m.ai.length/\∀h,f.bad.getD h false=true->a.1.getD h false=true) _ (λi a D x=>?_) (λa x=>?_) _ ⟨rfl,L,λh c=>c⟩
    .obtain⟨S,h⟩:=a;obtain⟨rfl,n,l⟩:=x;dsimp only at n l⊢;unfold I9;dsimp only;have v:=c6 D;have B:=dd D;generalize j[i]=a at v B;have H:=(b.st a (M.mem a B).1).2.1;rw[E,aC (by rw[ev];omega),bn,oq,v,q4,aa,show(1:Int).toNat+((i:Int)).toNat=i+1 by omega,List.getElem?_cons_succ,oq,v,q4,aa,jF false H.1 (by omega),aa,get_at false H.1 (by omega),aa,aJ];refine ae ⟨rfl,by dsimp only;rw[dT];exact n,λP K=>?_⟩
     dsimp only;rw[ec,hK]
     split
     .rename_i ab;rw[if_pos (by omega)]
      rfl
     .rw[<-ec];exact l P K
    .obtain⟨S,h⟩:=a;obtain⟨rfl,n,l⟩:=x;dsimp only at n l⊢;unfold I9;dsimp only;rw[E,aG (by rw[ev];omega)];exact ae ⟨n,l⟩
   .rw[acq b.num (by rw[ev];omega),aa];have W:mA ({f with steps:=f.steps.filter λa=>!c5 (a.gX∈j.map (·.gX)),bad:=o}:cm) m.ai.length:=⟨b.MP,b.sM,b.safe,F.1,hD (kd _ _) b.num,λa k=>b.st a (l1.1 k).1⟩;refine aD (LA W z) λr s=>?_
    obtain⟨U,N,I,w⟩:=r;dsimp only at s⊢;cases w with
    |false=>exact ae ⟨λ_=>⟨rfl,rfl⟩,by intro c;cases c⟩
    |true=>
     obtain⟨t,C,rfl,rfl,rfl⟩:=s rfl;have T:mC f p t:=mC.up (f:=f) (g:=({f with steps:=f.steps.filter λa=>!c5 (a.gX∈j.map (·.gX)),bad:=o}:cm)) (λa k=>(l1.1 k).1) rfl F.2 C;refine ae ⟨(by intro c;cases c),λ_=>⟨j,t,f,d,y,b,G,u,T,rfl,rfl,rfl,λa k=>?_⟩⟩
     obtain⟨Y,J,_⟩:=C.ex;have:=(l1.1 (J.mem a k).1).2;simpa using this
def adw(b:ak)(c:bE)(p:Int):Be LC b c p=(r7 LC b c p).bind λa=>c7 (a.1,a.2.1,a.2.2.2):=rfl
def ann{m:ak}{p:Int}(s:m.af.length<=1000):Ok (v7 LC m p) λr=>0<=r/\r<=1000099:=by
 unfold v7;refine aD (Q:=λr:Int=>0<=r/\r<=1000099) ?_ λr f=>ae f
 have g:∀(i:Nat) (b:Bool),wT m (i:Int) b 2 3 4<=1000099:=λi b=>by
  rcases rF m (i:Int) b (u:=2) (d:=3) (l:=4) (by decide) with o |o <;> omega
 refine di m.af.length (λi a=>a.2=(i:Int)/\0<=a.1/\a.1<=1000099) _ (λi a h e=>?_) (λa e=>?_) _ ⟨rfl,fe _,by decide⟩
 .obtain⟨n,k⟩:=a;obtain⟨rfl,h0,c⟩:=e;dsimp only at h0 c⊢;unfold Kb;rw[aC,bn,c6 h,aa,AF,AF];have q:=g i false;have t:=g i true;simp only[aa];rw[aJ];refine aD (Q:=λr:Int=>0<=r/\r<=1000099) ?_ λr f=>aD (Q:=λr:Int=>0<=r/\r<=1000099) ?_ λv j=>ae ⟨rfl,j⟩
  .exact aV (λ_=>ae (by omega)) (λ_=>ae ⟨h0,c⟩)
  .exact aV (λ_=>ae (by omega)) (λ_=>ae f)
 .obtain⟨n,k⟩:=a;obtain⟨rfl,h0,c⟩:=e;dsimp only at h0 c⊢;unfold Kb;rw[aG];exact ae ⟨h0,c⟩
def xU.time{m:ak}{e:bE}{p:Int}{r:List Int×List Int×ju}{a d:List cS}{f:cm}(h:xU m e p r a d f):(0<=gz a/\gz a<=64006336)/\0<=gz d/\gz d<=64006336:=by
 have j:0<=p/\p<(m.ai.length:Int):=⟨h.there.2.1,by have:=h.there.2.2;omega⟩;have t:=h.p1.len h.fin j;have l:=h.p2.len h.fin j;have n:=h.fin.sM;obtain⟨x,c1,_⟩:=h.p1.ex;obtain⟨o,k,_⟩:=h.p2.ex;have u:=KZ h.fin λs c=>(c1.mem s c).1
 have w:=KZ h.fin λs c=>(k.mem s c).1
 omega
noncomputable def od(b:ak)(a:bE)(p:Int):Bool:=(r6 LC b a p).getD false
def L1{m:ak}{e:bE}{p:Int}(l:lO e)(v:Fit m.ai)(u:m.af.length<=1000):Ok (r6 LC m e p) λb=>b=true->∃r d c f a,r7 LC m e p=c7 (r.1,r.2.1,r.2.2,true)/\xU m e p r d c f/\v7 LC m p=c7 a/\(0<=a/\a<=1000099)/\a+gz d<=e.er/\a+gz c<=e.er:=by
 unfold r6;obtain⟨s,j,_,i⟩:=S9 (p:=p) l v;rw[j,aa];obtain⟨w,o,x,t⟩:=s;dsimp only at i⊢;cases t with
 |false=>exact ae (by intro h;cases h)
 |true=>
  obtain⟨d,c,f,g⟩:=i rfl;obtain⟨a,n,k⟩:=ann (m:=m) (p:=p) u;rw[cond_true,n,aa];have y:=g.time;have q:x=⟨gz d,gz c⟩:=g.t;subst q;dsimp only;rw[aJ];refine ae λh=>⟨(w,o,⟨gz d,gz c⟩),d,c,f,a,rfl,g,rfl,k,?_⟩
  have:=of_decide_eq_true h;omega
def U2{a:ak}{c:bE}{p:Int}(g:lO c)(f:Fit a.ai)(e:a.af.length<=1000):r6 LC a c p=c7 (od a c p):=by
 obtain⟨b,d,_⟩:=L1 (p:=p) g f e;unfold od;rw[d]
 rfl
def ase{h:ak}{l:bE}{p:Int}{f:cm}(w:lO l)(I:Fit h.ai)(k:lH h l/\0<=p/\p<=(h.ai.length:Int) -1)(X:w9 LC h l=c7 f)(j:mA f h.ai.length)(C:∀a,a∈f.steps->mn h a){ss:List cS}(t:mC f p ss):anJ LC h l p (ss.map (·.gX))=c7 (gz ss,0):=by
 have D:0<=p/\p<(h.ai.length:Int):=⟨k.2.1,by omega⟩;have ag:=t.len j D;have af:=j.sM;have ac:=j.num;have Z:=j.safe;obtain⟨q,u,R,r⟩:=t.ex;unfold anJ;rw[Jc w,aa,decide_eq_true k.1,ey,cond_false,ahk w I,aa,decide_eq_true k,ey,cond_false,X,aa];have F:Ok (bO (λa:List Int×Int×Int×Int=>anZ LC (ss.map (·.gX)) f a.1 a.2.1 a.2.2.1 a.2.2.2) ([p],p,0,0)) (·=r5 (q,gz ss)):=by
  refine di ss.length (λo a=>∃b g,ss=b++g/\b.length=o/\a.1=p::b.map (·.b9)/\a.2.2.1=gz b/\a.2.2.2=(o:Int)/\lL f a.2.1 g q) _ (λo a x s=>?_) (λa s=>?_) _ ⟨[],ss,rfl,rfl,rfl,rfl,rfl,u⟩
  .obtain⟨G,at_,W,V⟩:=a;obtain⟨b,g,d,rfl,rfl,rfl,rfl,e⟩:=s;dsimp only at e⊢
   match g,d,e with
   |[],d,e=>rw[d] at x;simp at x
   |a::g,d,e=>
    obtain⟨m,L,z,O⟩:=e;have J:(ss.map (·.gX))[b.length]?=c7 a.gX:=by rw[d,hq,ez (by simp)];simp
    have ah:=(j.st a m).2;unfold anZ;rw[aC (by rw[ev];omega),bn,J,aa];have E:aob LC f.steps a.gX at_=c7 (gg (λc=>c5 (c.gX=a.gX/\c.from_=at_)) f.steps):=by
     unfold aob;exact fF (P:=λy=>anM LC y a.gX at_) (by omega) (λy ab=>by unfold anM;exact fm rfl) λa=>rfl
    have M:0<=gg (λc=>c5 (c.gX=a.gX/\c.from_=at_)) f.steps:=Aw.2 ⟨a,m,decide_eq_true ⟨rfl,z⟩⟩;obtain⟨i,c,K,B,N,_⟩:=HN M;obtain⟨u1,u2⟩:=of_decide_eq_true N;have S:c=a:=(C c (fC B)).same k.1.1 (C a m) u1 (u2.trans z.symm);subst S;have U:c.b9∉p::b.map (·.b9):=λA=>by
     have:=t.nd;rw[d,hq, <-m4,oo] at this;exact this.2.2 _ A c.b9 (by simp) rfl
    have Y:b.length<=64:=by omega
    have ad:=KZ j (ss:=b) λv H=>(u.mem v (by rw[d];simp[H])).1
    rw[E,aa,K,aG,bn,B];simp only[aa];rw[SH j m,aa,L,ey,cond_false,contains_eq (by show(p::b.map (·.b9)).length<=_;simp;omega),aa,decide_eq_false U,aa,cond_false,pN (by simp;omega),aa,aJ (n:=gz b+c.time),aJ];exact ae ⟨b++[c],g,by rw[d,h8];rfl,by simp,by simp,(amX b c).symm,by dsimp only;omega,O⟩
  .obtain⟨G,at_,W,V⟩:=a;obtain⟨b,g,d,Y,rfl,rfl,rfl,e⟩:=s;dsimp only at e⊢;have T:g=[]:=by
    have:=congrArg r4 d;rw[ef] at this;exact m5.1 (by omega)
   subst T;rw[my] at d;subst d;unfold anZ;rw[aG (by rw[ev];omega)];exact ae (by rw[show at_=q from e])
 refine(dL F.val).trans ?_
 show((aj f.safe q).bind _)=_
 have Q:q<(f.safe.length:Int):=by
  by_cases A:q.toNat<f.safe.length
  .omega
  .rw[ec,hP (by omega)] at r;cases r
 rw[jF false R Q,aa,r]
 rfl
def Ut{a:List Int}(c:Fit a):EZ LC a []=c7 false:=by
 unfold EZ;have d:zW LC a []=c7 (gg (λ_=>false) a):=by
  unfold zW;refine fF (P:=λb=>E7 LC b []) c (λb _=>?_) λe=>rfl
  unfold E7;rw[contains_eq (by show(0:Nat)<=_;omega),aa];simp
 rw[d,aa,gm];simp
def Le{m:ak}{l:List Int}(k:l=[]\/∃a,l=[a])(s:Sm m.ai)(q:Sm m.af):Ok (yB LC m l []) λr=>(r.2=0/\cP m/\∀a,l=[a]->(0<=a/\a<(m.af.length:Int))/\r.1=cY m a)\/r.2≠0:=by
 unfold yB;rw[ko,aa]
 by_cases e:cP m
 rotate_left
 .rw[decide_eq_false e];exact ae (.inr (by simp))
 have t:=e.1;have u:=e.2.1;have j:Fit l:=by
  show l.length<=_
  rcases k with d |⟨a,d⟩ <;> (rw[d];simp)
 rw[decide_eq_true e,ey,cond_false,aJ,kw _ _ _ j,aa]
 by_cases h:cj 0 ((m.af.length:Int) -1) l
 rotate_left
 .rw[decide_eq_false h];exact ae (.inr (by simp))
 rw[decide_eq_true h,ey,cond_false,kw _ _ _ (by decide),aa,decide_eq_true cj.nil,ey,cond_false,Ut j,aa,aa,cond_false,mV s,aa,nk q,aa];have n:∀g:List aZ,bO (λc:List aZ×Int=>T4 LC [] c.1 c.2) (g,0)=c7 g:=λg=>fZ rfl
 rcases k with rfl |⟨a,rfl⟩
 .have i:bO (λc:List aZ×Int=>Cj LC [] c.1 c.2) (m.af,0)=c7 m.af:=fZ rfl;refine c8 i ?_
  refine c8 (n _) ?_
  exact ae (.inl ⟨rfl,e,λa d=>by cases d⟩)
 .have o:=h.mem (e0.2 rfl);have i:bO (λc:List aZ×Int=>Cj LC [a] c.1 c.2) (m.af,0)=c7 (cY m a).af:=by
   have f:m.af[a.toNat]?=c7 (m.af[a.toNat]'(by omega)):=c6 (by omega);generalize m.af[a.toNat]'(by omega)=r at f;have p:aj m.af a=c7 r:=by unfold aj;rw[if_pos o.1];exact f
   rw[iO (a':=((cY m a).af,1)),fZ (b:=(cY m a).af)]
   .rfl
   .dsimp only;unfold Cj;rw[aC (by simp),show aj [a] 0=c7 a from rfl,aa,p,aa,f,aa];unfold cY;rw[f]
    rfl
  refine c8 i ?_
  refine c8 (n _) ?_
  refine ae (.inl ⟨rfl,e,λb d=>?_⟩)
  injection d with d _
  subst d;exact⟨⟨o.1,by omega⟩,rfl⟩
def apF{m:ak}{e:bE}{b:aL}{t a:Int}(i:lO e)(j:gF b):Ok (EU LC m e b t a) λl=>l=0->lH m e/\mz m b/\(0<=t/\t<=2147483648)/\0<=a/\a<=2147483648:=by
 unfold EU;rw[Jc i,aa]
 by_cases g:lH m e
 rotate_left
 .rw[decide_eq_false g];exact ae (by intro c;cases c)
 rw[decide_eq_true g,ey,cond_false];obtain⟨v,k,h⟩:=vB m b j;rw[k,aa,aa];cases v with
 |false=>exact ae (by intro c;cases c)
 |true=>
  rw[ey,cond_false,cF,aa]
  by_cases f:0<=t/\t<=2147483648
  rotate_left
  .rw[decide_eq_false f];exact ae (by intro c;cases c)
  rw[decide_eq_true f,ey,cond_false,cF,aa,aa]
  by_cases d:0<=a/\a<=2147483648
  rotate_left
  .rw[decide_eq_false d];exact ae (by intro c;cases c)
  rw[decide_eq_true d];exact ae λ_=>⟨g,h rfl,f,d⟩
def LS(b:aL)(c a:Int):(ld b c a).length<=64:=pQ
def abM{c:List Int}{a:ak}{b:bE}(l:c.length<=1000000)(j:lO b)(h:Fit a.ai)(g:a.af.length<=1000):zr LC c a b=c7 (c.filter λp=>!od a b p):=by
 have e:∀d,d∈c->w5 LC d a b=c7 (od a b d):=λd _=>by
  unfold w5;rw[U2 j h g,aa]
 unfold zr;have f:ER LC c a b=c7 (gg (od a b) c):=by
  unfold ER;exact fF (by omega) e λk=>rfl
 rw[f,aa];exact Hs (by omega) e λk i m=>rfl
def aa8{b a:List Int}(h:b.length<=1000000)(e:Fit a):Av LC b a=c7 (b.filter λp=>!c5 (p∈a)):=by
 have d:∀c,c∈b->za LC c a=c7 (c5 (c∈a)):=λc _=>by
  unfold za;rw[contains_eq e,aa]
 unfold Av;have f:zU LC b a=c7 (gg (λp=>c5 (p∈a)) b):=by
  unfold zU;exact fF (by omega) d λg=>rfl
 rw[f,aa];exact Hs (by omega) d λg i j=>rfl
def apc{m:ak}{e:bE}{b:aL}{t:Int}{d:ay}(q:b.aA[0]?=c7 d)(z:d.aH.length<=12)(w:gF b)(v:lO e)(x:Fit m.ai)(k:m.af.length<=1000):Ok (Bo LC m e b t) λc=>c.length<=768/\∀a:Nat,a<d.aH.length->∀p,p∈ld b (a:Int) t->p∈c\/od m e p=true:=by
 unfold Bo;rw[show aj b.aA 0=c7 d from q,aa];refine aD (Q:=λc:List Int=>c.length<=64*d.aH.length/\∀a:Nat,a<d.aH.length->∀p,p∈ld b (a:Int) t->p∈c) ?_ λc u=>?_
 .refine di d.aH.length (λi f=>f.2=(i:Int)/\f.1.length<=64*i/\∀a:Nat,a<i->∀p,p∈ld b (a:Int) t->p∈f.1) _ (λi f y n=>?_) (λf n=>?_) _ ⟨rfl,by simp,λa h=>absurd h (by omega)⟩
  .obtain⟨c,a⟩:=f;obtain⟨rfl,j,g⟩:=n;dsimp only at j g⊢;unfold Jp;have A:=LS b (i:Int) t;rw[aC,QC w,aa,aJ];refine aD (akS (by omega)) λr k=>ae ⟨by dsimp only;omega,by have:=k.1;dsimp only;omega,λa h p l=>?_⟩
   dsimp only;rw[k.2]
   by_cases s:a<i
   .exact .inl (g a s p l)
   .have:a=i:=by omega
    subst this;exact .inr l
  .obtain⟨c,a⟩:=f;obtain⟨rfl,j,g⟩:=n;dsimp only at j g⊢;unfold Jp;rw[aG];exact ae ⟨j,g⟩
 .rw[abM (by omega) v x k,aa];refine ae ⟨hD (kd _ _) (by omega),λa h p l=>?_⟩
  cases o:od m e p with
  |true=>exact .inr rfl
  |false=>exact .inl (l1.2 ⟨u.2 a h p l,by rw[o];rfl⟩)
def gG.pR{m:ak}{b a:aL}{t:Int}(e:gF b)(y:cP m)(h:gG (λx c=>mP m x t c) b.aA a.aA):gF a:=by
 refine⟨by show a.aA.length<=_;rw[h.1];exact e.1,λn A=>?_⟩
 obtain⟨d,j,w,s,l⟩:=h.back A;have:=e.2 d j;refine⟨by rw[w];exact this.tg,by show n.aH.length<=_;rw[s];exact this.wh,λc u=>?_⟩
 obtain⟨k,o,rfl⟩:=e5.1 u;have r:=l k _ _ (c6 (show k<d.aH.length by omega)) (c6 o);have B:=r.new.1.1;have C:=y.1;show _<=1000000
 omega
def uF(b:ak)(a:Int):(cY b a).af.length=b.af.length:=by
 unfold cY;dsimp only
 split
 .rw[dT]
 .rfl
structure Pp (m:ak) (e:bE) (b:aL) (a:Int) (al:List Int) (t ahead:Int) (r:ak×List Int×Int):Prop where
 fN:cP m
 oV:0<=a/\a<(m.af.length:Int)
 out:r.1=cY m a
 hZ:mz m b
 kI:lH m e
 ex:∃b',kW LC (cY m a) b t=c7 (b',0)/\∀w0,b'.aA[0]?=c7 w0->∀k:Nat,k<w0.aH.length->∀p,p∈ld b' (k:Int) (t+ahead)->p∈al\/od (cY m a) e p=true
def Ws{m:ak}{e:bE}{b:aL}{a:Int}{al:List Int}{t ahead:Int}(n:Sm m.ai)(D:Sm m.af)(A:lO e)(o:gF b)(V:Fit al):Ok (zJ LC m e b [a] [] al t ahead) λr=>r.2.1.length<=768/\(r.2.2=0->Pp m e b a al t ahead r):=by
 unfold zJ;obtain⟨q,H,d⟩:=Le (m:=m) (l:=[a]) (.inr ⟨a,rfl⟩) n D;rw[H,aa];rcases d with⟨J,u,d⟩ |d
 rotate_left
 .rw[aC d];exact ae ⟨by simp,λc=>absurd c d⟩
 obtain⟨P,U⟩:=d a rfl;rw[aG (by rw[J];simp)];obtain⟨K,X,F⟩:=apF (m:=m) (e:=e) (b:=b) (t:=t) (a:=ahead) A o;rw[X,aa]
 by_cases j:K=0
 rotate_left
 .rw[aC j];exact ae ⟨by simp,λc=>absurd c j⟩
 obtain⟨S,v,ad,ah⟩:=F j;have O:Fit m.ai:=by have:=u.1;show _<=4611686018427387904;omega
 have x:Fit (cY m a).ai:=O;have Z:=u.2.1;rw[aG (by rw[j];simp),U];obtain⟨i,C,Q⟩:=Gq (cY m a) b t o x;rw[C,aa];rcases Q with⟨f,T,ab,ai,k⟩ |⟨f,_⟩
 rotate_left
 .rw[aC f];exact ae ⟨by simp,λc=>absurd c f⟩
 have W:=gG.pR o T k;rw[aG (by rw[f];simp),aJ];have h:i.1.aA[0]?=c7 (i.1.aA[0]'(by rw[k.1];omega)):=c6 _;generalize i.1.aA[0]'(by rw[k.1];omega)=aj at h;obtain⟨R,L,ac,ag,_⟩:=k.back (fC h);have Y:=v.len R L;obtain⟨l,I,y⟩:=apc (m:=cY m a) (e:=e) (t:=t+ahead) h (by omega) W A x (by rw[uF];omega);have B:=y.1;rw[I,aa,bV (by show _<=1000000;omega),aa,aa8 (by omega) V,aa];refine aV (λc=>?_) (λc=>?_)
 .obtain⟨z,G,_⟩:=Le (m:=m) (l:=[]) (.inl rfl) n D;rw[G,aa];exact ae ⟨hD (kd _ _) B,λc=>by cases c⟩
 .refine ae ⟨B,λ_=>⟨u,P,rfl,v,S,i.1,by rw[C, <-f],λaf g E N p n=>?_⟩⟩
  rw[h] at g;injection g with g
  subst g;rcases y.2 E N p n with s |s
  .refine .inl ?_
   have M:l.filter (λp=>!c5 (p∈al))=[]:=m5.1 (by omega)
   by_cases w:p∈al
   .exact w
   .have:=List.filter_eq_nil_iff.1 M p s;simp[w] at this
  .exact .inr s
def zb{a:List aT}(j:Sm a)(e:∀r,r∈a->Sm r.aw):ry LC a=c7 a:=by
 unfold ry;have h:=jm (f:=λd=>tV LC a d.1 d.2) a (λb i=>(b,i)) (λb=>b) (λb r k c=>by
  show tV LC a b (b.length:Int)=_
  unfold tV;have g:=jW j c;rw[aC (iy c),jg c,aa,bV (e r (ks c)),aa,dm (by decide) g,aa,aJ]) (by
  show tV LC a a (a.length:Int)=_
  unfold tV;rw[aG])
 exact(dL h).trans rfl
def Sv{a:List aT}(c:Sm a)(b:∀r,r∈a->Sm r.aw):zp LC a=c7 a:=zb c b
def sF{b:aL}(e:gF b):pf LC b=c7 b:=by
 unfold pf;have h:=jm (f:=λd=>sB LC b d.1 d.2) b.aA (λa i=>(a,i)) (λa=>a) (λa r j c=>by
  show sB LC b a (a.length:Int)=_
  unfold sB;have g:=jW e.1 c;rw[aC (iy c),jg c,aa,Tz (e.2 r (ks c)),aa,dm (by decide) g,aa,aJ]) (by
  show sB LC b b.aA (b.aA.length:Int)=_
  unfold sB;rw[aG])
 exact(dL h).trans rfl
structure EW (p:aE):Prop where
 tr:ny p.au
 pl:Sm p.ao.ai
 rd:Sm p.ao.af
 fl:Sm p.cI
 es:Sm p.bR.akL
 eb:Sm p.bR.dg
 eh:Sm p.bR.dG
 ba:Sm p.bM.bT
 pe:Sm p.cq
 pt:∀r,r∈p.cq->Sm r.aw
 he:Sm p.bZ
 ht:∀r,r∈p.bZ->Sm r.aw
 il:Sm p.cW.dl
 io:Sm p.cW.dr
 be:gF p.bw
 se:gF p.bq
 sm:Sm p.bz.an
 kr:Sm p.aa2.af
 kk:Sm p.aa2.aa2
 al:Sm p.bS
 lg:Sm p.bB
 ln:∀h,h∈p.bB->Sm h.ll
def abi{p:aE}(a:EW p):wc LC p=c7 p:=by
 unfold wc;obtain⟨q,e,h⟩:=HQ a.tr.fit;rw[e,aa,mV a.pl,aa,nk a.rd,aa,zS a.fl,aa,bV a.es,aa,bV a.eb,aa,bV a.eh,aa,bV a.ba,aa,zb a.pe a.pt,aa,zb a.he a.ht,aa,bV a.il,aa,bV a.io,aa,sF a.be,aa,sF a.se,aa,bV a.sm,aa,bV a.kr,aa,bV a.kk,aa,wE a.al,aa,h];have j:=jm (f:=λd=>tO LC p (sN d) (sE d)) p.bB (λb i=>u16 ({p with bB:=b}:aE) i) (λb=>lR ({p with bB:=b}:aE)) (λb r k c=>by
  show tO LC p ({p with bB:=b}:aE) (b.length:Int)=_
  unfold tO;have g:=jW a.lg c;rw[aC (iy c),jg c,aa,bV (a.ln r (ks c)),aa,dm (by decide) g,aa,aJ]) (by
  show tO LC p p (p.bB.length:Int)=_
  unfold tO;rw[aG])
 exact(dL j).trans rfl
def abE{p:aE}(a:EW p):Cp LC p=c7 (OE p):=by
 unfold Cp;obtain⟨q,e,h⟩:=HQ a.tr.fit;rw[e,aa,mV a.pl,aa,nk a.rd,aa,zS a.fl,aa,bV a.es,aa,bV a.eb,aa,bV a.eh,aa,bV a.ba,aa,zb a.pe a.pt,aa,zb a.he a.ht,aa,bV a.il,aa,bV a.io,aa,sF a.be,aa,sF a.se,aa,bV a.sm,aa,bV a.kr,aa,bV a.kk,aa,wE a.al,aa,h];have j:=jm (f:=λd=>uo LC p (sN d) (sE d)) p.bB (λb i=>u16 ({p with bB:=b}:aE) i) (λb=>lR ({p with bB:=b}:aE)) (λb r k c=>by
  show uo LC p ({p with bB:=b}:aE) (b.length:Int)=_
  unfold uo;have g:=jW a.lg c;rw[aC (iy c),jg c,aa,bV (a.ln r (ks c)),aa,dm (by decide) g,aa,aJ]) (by
  show uo LC p p (p.bB.length:Int)=_
  unfold uo;rw[aG])
 exact(dL j).trans rfl
def aiT{p:aE}(a:EW p):Dr LC p=c7 (IW p):=by
 unfold Dr;obtain⟨q,e,h⟩:=HQ a.tr.fit;rw[e,aa,mV a.pl,aa,nk a.rd,aa,zS a.fl,aa,bV a.es,aa,bV a.eb,aa,bV a.eh,aa,bV a.ba,aa,Sv a.pe a.pt,aa,Sv a.he a.ht,aa,bV a.il,aa,bV a.io,aa,sF a.be,aa,sF a.se,aa,bV a.sm,aa,bV a.kr,aa,bV a.kk,aa,wE a.al,aa,h];have j:=jm (f:=λd=>uS LC p (Rx p.cq p.bZ d) (Tu d)) p.bB (λb i=>J3 ({p with bB:=b}:aE) i) (λb=>Mj ({p with bB:=b}:aE)) (λb r k c=>by
  show uS LC p ({p with bB:=b}:aE) (b.length:Int)=_
  unfold uS;have g:=jW a.lg c;rw[aC (iy c),jg c,aa,bV (a.ln r (ks c)),aa,dm (by decide) g,aa,aJ]) (by
  show uS LC p p (p.bB.length:Int)=_
  unfold uS;rw[aG])
 exact(dL j).trans rfl
structure fM (n np:Nat) (b:aL):Prop where
 num:b.aA.length<=24
 mX:∀w,w∈b.aA->j0 n np w/\w.aw.length=n
def fM.pR{n np:Nat}(k:n<=3)(m:np<=64){b:aL}(h:fM n np b):gF b:=⟨cX h.num (by decide),λe a=>by
 obtain⟨⟨l,c⟩,j⟩:=h.mX e a;exact⟨cX (n:=3) (by omega) (by decide),cX (n:=3) (by omega) (by decide),λx d=>cX (n:=64) (by have:=c x d;omega) (by decide)⟩⟩
def fM.nil{n np:Nat}:fM n np ⟨[]⟩:=⟨by simp,λc a=>by cases a⟩
def fM.aX{n np:Nat}{l:aM->aM->Prop}{C:aM->Prop}{m:ak}{tag:Int}{b e:aL}(h:fM n np b)(A:∀x a,l x a->x.an.length=np->a.an.length=np)(k:oG l C m tag b e):fM n np e:=by
 refine⟨hD k.n.len h.num,λt B=>?_⟩
 obtain⟨j,o,i,x,a,E,y,s,rfl⟩:=k.n.from_ t B;obtain⟨⟨D,d⟩,u⟩:=h.mX j o;refine⟨⟨by show(j.aH.set i a).length=n;rw[dT];exact D,λw c=>?_⟩,u⟩
 rcases eE c with c |rfl
 .exact d w c
 .exact A x _ s (d x (fC y))
def fM.Np{n np:Nat}{m:ak}{i j t:Int}{b c:aL}(h:fM n np b)(e:AY m i j t n np b c):fM n np c:=by
 refine⟨e.num,λl x=>?_⟩
 obtain⟨C,w,D,B,E,A⟩:=e.ex;obtain⟨y,d,s,o⟩:=w.c l x;refine⟨y,?_⟩
 rw[o];rcases A d s with k |⟨a,u,rfl⟩
 .exact(h.mX d k).2
 .have:=(h.mX a u).2;show(gL i j a.aw).length=n
  unfold gL
  split
  .rw[dT,dT];exact this
  .exact this
def fM.renew{n np:Nat}{m:ak}{t:Int}{b c:aL}(h:fM n np b)(y:m.ai.length=np)(e:gG (λx a=>mP m x t a) b.aA c.aA):fM n np c:=by
 refine⟨by rw[e.1];exact h.num,λB A=>?_⟩
 obtain⟨d,j,w,D,l⟩:=e.back A;obtain⟨⟨E,C⟩,s⟩:=h.mX d j;refine⟨⟨by omega,λa u=>?_⟩,by rw[w];exact s⟩
 obtain⟨k,o,rfl⟩:=e5.1 u;have r:=l k _ _ (c6 (show k<d.aH.length by omega)) (c6 o);rw[r.new.1.1,y]
def fM.shut{n np:Nat}{m:ak}{l:List Int}{t:Int}{b d:aL}(h:fM n np b)(w:Ff m b l t n np d):fM n np d:=by
 obtain⟨C,D,A,c,a⟩:=w.ex;refine⟨hD a.d (by rw[c.1];exact h.num),λj x=>?_⟩
 obtain⟨y,B,o,k⟩:=a.c j x;obtain⟨u,s,e,_⟩:=c.back o;exact⟨y,by rw[k,e];exact(h.mX u s).2⟩
def Ro{e:ak}{c:Nat}(h:e.ai.length=c){f:List Int}{j g:Int}:∀b a:aM,(a=b\/lG e b f j g a)->b.an.length=c->a.an.length=c:=λb a d i=>by
 rcases d with rfl |d
 .exact i
 .rw[d.new.1.1,h]
def T3{e:ak}{c:Nat}(k:e.ai.length=c){h:List Int}{l i m:Int}:∀b a:aM,(a=b\/∃f,og e b h l i m a f)->b.an.length=c->a.an.length=c:=λb a d j=>by
 rcases d with rfl |⟨g,d⟩
 .exact j
 .rw[d.new.1.1,k]
structure dW (n np:Nat) (p:aE):Prop where
 n3:1<=n/\n<=3
 kN:ny p.au
 fN:p.au.ao=p.ao
 gq:cP p.ao
 gk:p.ao.ai.length=np
 iz:p.au.aN.length=n
 jR:p.au.aQ.length<=3
 kj:p.au.bp.length=p.au.aQ.length
 uD:p.cI.length=p.ao.af.length
 kI:lO p.bR/\Sm p.bR.akL/\Sm p.bR.dg/\Sm p.bR.dG
 qx:Sm p.bM.bT
 kn:p.cq.length=p.au.aQ.length
 rX:∀r,r∈p.cq->r.aw.length<=1000
 uB:p.bZ.length<=60
 rW:∀r,r∈p.bZ->r.aw.length<=1000
 int:Sm p.cW.dl/\Sm p.cW.dr
 hZ:fM n np p.bw
 bne:p.bw.aA≠[]
 je:fM n np p.bq
 pq:p.bz.an=[]\/p.bz.an.length=np
 key:ff p.aa2
 jY:cj 0 ((p.ao.af.length:Int) -1) p.aa2.af
 iI:VA p.bS
 log:p.bB.length<=200
 uC:∀h,h∈p.bB->h.ll.length<=768
def dW.mq{n np:Nat}{p:aE}(h:dW n np p):np<=64:=by have:=h.gq.1;have:=h.gk;omega
def dW.lC{n np:Nat}{p:aE}(h:dW n np p):EW p:=by
 have j:=h.mq;have a:=h.gq;have d:=h.n3;refine⟨h.kN,cX a.1 (by decide),cX a.2.1 (by decide),cX (n:=128) (by have:=h.uD;have:=a.2.1;omega) (by decide),h.kI.2.1,h.kI.2.2.1,h.kI.2.2.2,h.qx,cX (n:=3) (by have:=h.kn;have:=h.jR;omega) (by decide),λr c=>cX (h.rX r c) (by decide),cX h.uB (by decide),λr c=>cX (h.rW r c) (by decide),h.int.1,h.int.2,h.hZ.pR d.2 j,h.je.pR d.2 j,?_,h.key.sm.1,h.key.sm.2,cX h.iI.1 (by decide),cX h.log (by decide),λx k=>cX (h.uC x k) (by decide)⟩
 rcases h.pq with e |e
 .rw[e];show(0:Nat)<=_;decide
 .exact cX (n:=64) (by omega) (by decide)
def U4{d e:Nat}{p:aE}(a:dW d e p):Ok (zj LC p) λb=>b=true->fw p.au:=by
 classical
 unfold zj;rw[xf _ a.kN.fit,aa]
 by_cases c:fw p.au
 rotate_left
 .rw[decide_eq_false c];exact ae (by intro a;cases a)
 rw[decide_eq_true c,cond_true,ko,aa,decide_eq_true a.gq,cond_true,aC (by have:=a.kn;omega),aC (by have:=a.uD;omega),aC (by have:=List.length_pos_iff.2 a.bne;omega),tA (hD a.key.sm.1 (by decide)),aa];exact ae λ_=>c
end Go.X.T
