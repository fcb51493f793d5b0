/- TopWhole: for every input the law returns true, and each argument reads as it did. Without conditions. -/
import Derived.Test.YtfljhldgncdifaaGreatWF
import Derived.Test.YtfljhldgncdifaaGreatWJ4a
import Derived.Test.YtfljhldgncdifaaGreatWJ4b
import Derived.Test.YtfljhldgncdifaaGreatWJ4c
import Derived.Test.YtfljhldgncdifaaGreatWJ4d
import Derived.Test.YtfljhldgncdifaaGreatWA
import Derived.Test.YtfljhldgncdifaaGreatWB
import Derived.Test.YtfljhldgncdifaaGreatWC
import Derived.Test.YtfljhldgncdifaaGreatWD
import Derived.Test.YtfljhldgncdifaaGreatWE
import Derived.Test.YtfljhldgncdifaaGreatRows
import Derived.WalkKit
import Derived.ProofKit
import Derived.OpenShut
import Derived.Below
import Derived.JoinedOf
set_option linter.defProp false
set_option linter.unusedSimpArgs false
set_option maxRecDepth 100000
set_option linter.unusedVariables false
open Go.IntKind renaming wrap → c3, i64 → c4
open Decidable renaming decide → c5
open List renaming getElem?_eq_getElem → c6, getD_eq_getElem?_getD → dk, mem_iff_getElem → dt, getElem_mem → dv, mem_singleton → dT, length_set → e0, length_map → e6, mem_append → ea, getElem?_append_left → ec, length_eq_zero_iff → ee, replicate → ef, mem_or_eq_of_mem_set → ei, getElem?_set_ne → ej, getElem?_set_self → ev, getElem?_map → ey, length_pos_iff → ez, getElem?_eq_some_iff → eE, getElem?_set → fe, length_append → ft, length_replicate → ga, mem_of_mem_drop → gy, getElem?_append_right → h5, mem_of_mem_take → h6, any_eq_true → h7, getElem?_eq_none → h8, take_length → h9, pairwise_iff_getElem → hq, any_eq_false → hz, eq_of_mem_replicate → hB, length_drop → hD, length_singleton → hI, mem_cons_of_mem → hK, mem_cons_self → hS, foldl_append → hX, length → ih, map_append → j1, mem_map → j3
open Option renaming some → c7, none → ie
open Int renaming le_refl → dd, toNat_natCast → e4, tmod_lt_of_pos → hM, lt_tmod_of_pos → hP, tmod_eq_of_lt → hU, le_trans → j4
open Bool renaming not_true → e5
open Sum renaming inl → eo, inr → gb, elim → j2, elim_inr → j6
open Nat renaming le_trans → eH, not_lt_zero → gv, le_refl → gx, add_sub_cancel → hQ
open Go.Proofs.Tryz renaming prog → hL, checked → hY
open Ne renaming symm → j5
open List.Pairwise renaming nil → j7
namespace Go.X.T
open Go Go.Aml Go.Top
def dR(p:aE)(b a:aL):aE:={p with bw:=b,bq:=a}
def DS(r:aT)(b:aS)(a:dS):Prop:=a.Tag∈r.aw/\a.an=max 0 (r.aa0 -b.cR)/\a.To=r.aa0+b.cR
inductive fv (m:ak) (kr:List Int) (clock:Int) (rs rd:aS) (r:aT) (hd:List aT) (k:Int) (b0 s0:aL):aL->aL->Prop
 |nil:fv m kr clock rs rd r hd k b0 s0 b0 s0
 |Ls {b s b'} (sg:dS):fv m kr clock rs rd r hd k b0 s0 b s->DS r rs sg->oG (λx x'=>x'=x\/lG m x rd.ai sg.an (min sg.To clock) x') (λx=>x.aa0<=sg.an/\∀p,p∈rd.ai->min sg.To clock<fn x.an p) m sg.Tag b b'->fv m kr clock rs rd r hd k b0 s0 b' s
 |Lt {b s s'} (sg:dS) (bm:ak):fv m kr clock rs rd r hd k b0 s0 b s->DS r rs sg->s.aA≠[]->ki m kr bm->oG (λx x'=>x'=x\/lG bm x rd.ai sg.an (min sg.To clock) x') (λx=>x.aa0<=sg.an/\∀p,p∈rd.ai->min sg.To clock<fn x.an p) bm sg.Tag s s'->fv m kr clock rs rd r hd k b0 s0 b s'
 |abs {b s b'} (tag:Int) (a:dC):fv m kr clock rs rd r hd k b0 s0 b s->tag∉r.aw->nc hd k tag rd a->oG (λx x'=>x'=x\/∃g1,og m x rd.ai a.an (min a.To clock) ((rd.dY+1)*rd.dX) x' g1) (λ_=>False) m tag b b'->fv m kr clock rs rd r hd k b0 s0 b' s
 |Lu {b s s'} (tag:Int) (a:dC) (bm:ak):fv m kr clock rs rd r hd k b0 s0 b s->tag∉r.aw->nc hd k tag rd a->s.aA≠[]->ki m kr bm->oG (λx x'=>x'=x\/∃g1,og bm x rd.ai a.an (min a.To clock) ((rd.dY+1)*rd.dX) x' g1) (λ_=>False) bm tag s s'->fv m kr clock rs rd r hd k b0 s0 b s'
def fv.shape{m:ak}{kr:List Int}{clock:Int}{rs rd:aS}{r:aT}{w:List aT}{k:Int}{l o b s:aL}{n np:Nat}(h:fv m kr clock rs rd r w k l o b s)(j:m.ai.length=np)(A:fM n np l)(y:l.aA≠[])(B:fM n np o):(fM n np b/\b.aA≠[])/\fM n np s/\(s.aA=[]↔o.aA=[]):=by
 induction h with
 |nil=>exact⟨⟨A,y⟩,B,Iff.rfl⟩
 |Ls C _ _ d c=>exact⟨⟨c.1.1.aX (Ro j) d,d.ne⟩,c.2⟩
 |Lt C x _ _ u t d c=>exact⟨c.1,c.2.1.aX (Ro (by rw[t.pl];exact j)) d,⟨λh=>absurd h d.ne,λh=>absurd (c.2.2.2 h) u⟩⟩
 |abs tag a _ _ _ d c=>exact⟨⟨c.1.1.aX (T3 j) d,d.ne⟩,c.2⟩
 |Lu tag a x _ _ _ u t d c=>exact⟨c.1,c.2.1.aX (T3 (by rw[t.pl];exact j)) d,⟨λh=>absurd h d.ne,λh=>absurd (c.2.2.2 h) u⟩⟩
def gj(d c:List cy):Prop:=VA c/\∀b,b∈d->∃a,a∈c/\fX a b.abv b.eB
def gj.refl{a:List cy}(h:VA a):gj a a:=⟨h,λb c=>⟨b,c,rfl,rfl⟩⟩
def gj.trans{j d l:List cy}(h:gj j d)(k:gj d l):gj j l:=⟨k.1,λb u=>by
 obtain⟨a,t,o,x⟩:=h.2 b u;obtain⟨c,w,s,m⟩:=k.2 a t;exact⟨c,w,s.trans o,m.trans x⟩⟩
def QP{b:List cy}(a:VA b)(f d p h:Int):Ok (rk LC b f d p h) λq=>gj b q.1/\(q.2=0->∃i,i∈q.1/\fX i f d)/\(q.2≠0->q.1=b):=alt (apS b f d p h) λq j=>by
 rcases j with⟨g,c⟩ |⟨g,c,l,k⟩
 .exact⟨by rw[c];exact gj.refl a,λa=>absurd a g,λ_=>c⟩
 .exact⟨⟨c,k⟩,λ_=>l,λa=>absurd g a⟩
def aas(a:bA)(r:Int):Prop:=∀(i:Nat) (n:Int),a.af[i]?=c7 r->a.aa2[i]?=c7 n->n=0
structure oP (p:aE) (a:Int) (p':aE):Prop where
 ex:∃b s fl sm bm,p'={p with ao:=cY p.ao a,cI:=fl,bw:=b,bq:=s,bz:=sm}/\fl.length=p.cI.length/\
  kW LC (cY p.ao a) p.bw p.au.aa0=c7 (b,0)/\cP (cY p.ao a)/\gG (λx x'=>mP (cY p.ao a) x p.au.aa0 x') p.bw.aA b.aA/\
  ((p.bq.aA=[]/\s=p.bq)\/(p.bq.aA≠[]/\ki (cY p.ao a) p.aa2.af bm/\gG (λx x'=>mP bm x p.au.aa0 x') p.bq.aA s.aA))/\
  ((p.bz.an=[]/\sm=p.bz)\/(p.bz.an≠[]/\sm.an.length=p.ao.ai.length))
inductive gC (p:aE) (e:bH):aE->Prop
 |wait:e.abv=1->fw p.au->0<=e.A->p.au.aa0+e.A<=2147483648->gC p e {p with au:=x7 p.au e.A}
 |walk (w:bC):e.abv=2->fw p.au->0<=e.A->(0<=e.C/\e.C<=3600)->p.au.aN[e.A.toNat]?=c7 w->w.akw<0->0<=mQ p.au.ao e.B w.abG->aas p.aa2 e.B->gC p e {p with au:={p.au with aN:=p.au.aN.set e.A.toNat ⟨w.abG,e.B,mQ p.au.ao e.B w.abG+e.C⟩}}
 |look (k:Nat) (rd:aS) (x':aB) (r:aT):e.abv=3->e.A=(k:Int)->cf p.au k e.C rd x' r->gC p e {p with au:=x',cq:=p.cq.set k r}
 |JE (k:Nat) (rs rd:aS) (r:aT) (num:Int) (hd:List aT) (x:cZ) (b s:aL):e.abv=4->e.A=(k:Int)->p.au.cn[k]?=c7 num->0<=num->p.cq[k]?=c7 r->kb r->p.au.aQ[k]?=c7 rd->p.au.aQ[r.agX.toNat]?=c7 rs->(∃d,hd=(p.bZ++[r]).drop d)->hd.length<=60->(Sm x.dl/\Sm x.dr)->fv p.ao p.aa2.af p.au.aa0 rs rd r hd (k:Int) p.bw p.bq b s->gC p e {p with bZ:=hd,cW:=x,bw:=b,bq:=s}
 |swap (x:aB) (b s:aL) (w w':bC):e.abv=5->fw p.au->(0<=e.A/\e.A<(p.au.aN.length:Int))->(0<=e.B/\e.B<(p.au.aN.length:Int))->e.A≠e.B->p.au.aN[e.A.toNat]?=c7 w->p.au.aN[e.B.toNat]?=c7 w'->w.abG=w'.abG->x={p.au with aw:=gL e.A e.B p.au.aw,bp:=p.au.bp.map (gL e.A e.B)}->AY p.ao e.A e.B p.au.aa0 p.au.aN.length p.ao.ai.length p.bw b->((p.bq.aA=[]/\s=p.bq)\/∃bm,p.bq.aA≠[]/\ki p.ao p.aa2.af bm/\AY bm e.A e.B p.au.aa0 p.au.aN.length p.ao.ai.length p.bq s)->gC p e {p with au:=x,bw:=b,bq:=s}
 |JD (sm:bQ) (al:List cy):e.abv=6->sm.an.length=p.ao.ai.length->gj p.bS al->(∃a,a∈al/\fX a 1 e.A)->gC p e {p with bz:=sm,bS:=al}
 |guard (k:bA):e.abv=7->k.af=p.aa2.af->k.aa2=p.aa2.aa2.set e.A.toNat 2->k.Out=false->p.aa2.Out=false->ff k->0<=e.A->(∀w,w∈p.au.aN->∀r,p.aa2.af[e.A.toNat]?=c7 r->w.akw≠r)->gC p e {p with aa2:=k}
 |shut (k:bA) (s:aL):e.abv=7->k.af=p.aa2.af->k.aa2=p.aa2.aa2.set e.A.toNat 2->(∀n,n∈k.aa2->n=2)->k.Out=true->p.aa2.Out=false->ff k->0<=e.A->(∀w,w∈p.au.aN->∀r,p.aa2.af[e.A.toNat]?=c7 r->w.akw≠r)->Ff p.ao p.bw p.aa2.af p.au.aa0 p.au.aN.length p.ao.ai.length s->gC p e {p with aa2:=k,bq:=s}
 |xX (st:b7):(e.abv=8\/e.abv=9\/e.abv=10)->mW st->rz p.bM p.aa2 p.bq->gC p e {p with cL:=st}
 |xZ (p':aE):e.abv=11->fw p.au->0<=e.A->(∃r,p.au.ao.af[e.A.toNat]?=c7 r/\r.eN=false)->oP {p with au:={p.au with ao:=cY p.au.ao e.A,aN:=p.au.aN.map (n8 e.A)}} e.A p'->gC p e p'
 |xY (p':aE) (al:List Int) (q:ak×List Int×Int):e.abv=12->(∀x,x∈al->∃a,a∈p.bS/\fX a 2 x)->Pp p.ao {p.bR with dg:=filled p.bz (p.au.aa0+600)} p.bw e.A al p.au.aa0 600 q->fw p.au->0<=e.A->(∃r,p.au.ao.af[e.A.toNat]?=c7 r/\r.eN=false)->oP {p with au:={p.au with ao:=cY p.au.ao e.A,aN:=p.au.aN.map (n8 e.A)}} e.A p'->gC p e p'
 |JF (k:bA) (st:b7):e.abv=13->k.af=p.aa2.af->ff k->k.Out=false->(∀n,n∈k.aa2->n=0)->(st=p.cL/\p.cL.State=0\/st=⟨0,0,0,0⟩)->gC p e {p with aa2:=k,cL:=st,bq:=⟨[]⟩}
structure gi (p:aE) (e:bH) (g:aR) (c:Int):Prop where
 ok:c=0->gC p e g.aI
 iI:c≠0->gj p.bS g.aI.bS
 nm:g.named.length<=768
def gi.same{p:aE}{e:bH}{c:Int}{n np:Nat}(h:dW n np p)(a:c≠0):gi p e ⟨p,[]⟩ c:=⟨λh=>absurd h a,λ_=>gj.refl h.iI,by simp⟩
def gi.bad{p a:aE}{e:bH}{c:Int}{n np:Nat}(h:dW n np p)(j:c≠0)(d:a.bS=p.bS):gi p e ⟨a,[]⟩ c:=⟨λh=>absurd h j,λ_=>by show gj p.bS a.bS;rw[d];exact gj.refl h.iI,by simp⟩
def gi.lP{p a:aE}{e:bH}{c:Int}(d:c=0)(j:gC p e a):gi p e ⟨a,[]⟩ c:=⟨λ_=>j,λh=>absurd d h,by simp⟩
section
variable {n np:Nat}{p:aE}{e:bH}
def Wo(b:dW n np p)(d:e.abv=1):Ok (xR LC ⟨p,[]⟩ e) λi=>∃g c,i=cT g c/\gi p e g c:=by
 unfold xR;refine aD (RE e.A b.kN.fit) λq f=>ae ⟨_,_,rfl,?_⟩
 rcases f with⟨a,_⟩ |⟨a,k,j,h,l⟩
 .exact .bad b a rfl
 .rw[l];exact .lP a (.wait d k j h)
def aku(a:dW n np p)(m:e.abv=2):Ok (yV LC ⟨p,[]⟩ e) λl=>∃g f,l=cT g f/\gi p e g f:=by
 unfold yV;have B:=a.key.1.1;have c:=a.key.2.1;refine aD (O5 (k:=p.aa2) (by omega) (by omega)) λA c=>?_
 rw[contains_eq (by show A.length<=_;have:=c.1;omega),aa];refine aV (λ_=>ae ⟨_,_,rfl,.same a (by decide)⟩) (λv=>?_)
 refine aD (ahi e.A e.B e.C a.kN.fit) λq o=>ae ⟨_,_,rfl,?_⟩
 rcases o with⟨b,_⟩ |⟨b,y,t,w,z,u,r,j,x⟩
 .exact .bad a b rfl
 .rw[x];refine .lP b (.walk z m y t w u r j λi n s h=>?_)
  by_cases d:n=0
  .exact d
  .exact absurd ((c.2 e.B).2 ⟨i,n,s,h,d⟩) v
def anv(a:dW n np p)(i:e.abv=3)(h0:0<=e.A)(k:e.A<max 1 (p.au.aQ.length:Int)):Ok (yT LC ⟨p,[]⟩ e) λl=>∃g f,l=cT g f/\gi p e g f:=by
 unfold yT;refine aD (look_ok (x:=p.au) e.A e.B e.C a.kN.fit (by have:=a.kj;have:=a.jR;omega) h0 k a.kj) λq j=>?_
 rcases j with⟨b,d⟩ |⟨b,c,m,d,h⟩
 .rw[aG b];exact ae ⟨_,_,rfl,.same a b⟩
 .rw[aC b];have o:=(eE.1 h.eZ).1;have r:=a.kn;rw[d,bn];show Ok ((p.cq[c]?).bind λ_=>(p.cq[((c:Nat):Int).toNat]?).bind _) _
  rw[e4,c6 (show c<p.cq.length by omega),aa,aa];exact ae ⟨_,_,rfl,.lP b (.look c m q.1 q.2.1 i d h)⟩
def Zi(c:dW n np p)(h:e.abv=8):Ok (vm LC ⟨p,[]⟩ e) λl=>∃g f,l=cT g f/\gi p e g f:=by
 unfold vm;refine c8 (a:=p.au.aa0) rfl ?_
 refine aD (ao0 (x:=p.bM) (s:=p.cL) (k:=p.aa2) (b:=p.bq) e.A p.au.aa0 (eH c.qx (by decide)) (eH c.key.sm.1 (by decide)) c.lC.se) λq i=>ae ⟨_,_,rfl,?_⟩
 rcases i with⟨d,_⟩ |⟨d,m,o,j⟩
 .exact .bad c d rfl
 .exact .lP d (.xX q.1 (.inl h) m j)
def amE(c:dW n np p)(h:e.abv=9):Ok (wR LC ⟨p,[]⟩ e) λl=>∃g f,l=cT g f/\gi p e g f:=by
 unfold wR;refine c8 (a:=p.au.aa0) rfl ?_
 refine aD (ajE (x:=p.bM) (s:=p.cL) (k:=p.aa2) (b:=p.bq) e.A p.au.aa0 (eH c.qx (by decide)) (eH c.key.sm.1 (by decide)) c.lC.se) λq i=>ae ⟨_,_,rfl,?_⟩
 rcases i with⟨d,_⟩ |⟨d,m,o,j⟩
 .exact .bad c d rfl
 .exact .lP d (.xX q.1 (.inr (.inl h)) m j)
def aeC(c:dW n np p)(h:e.abv=10):Ok (yu LC ⟨p,[]⟩ e) λl=>∃g f,l=cT g f/\gi p e g f:=by
 unfold yu;refine c8 (a:=p.au.aa0) rfl ?_
 refine aD (X1 (x:=p.bM) (s:=p.cL) (k:=p.aa2) (b:=p.bq) p.au.aa0 (c5 (e.B≠0)) (eH c.qx (by decide)) (eH c.key.sm.1 (by decide)) c.lC.se) λq i=>ae ⟨_,_,rfl,?_⟩
 rcases i with⟨d,_⟩ |⟨d,m,o,j⟩
 .exact .bad c d rfl
 .exact .lP d (.xX q.1 (.inr (.inr h)) m j)
end
section
variable {n np:Nat}{p:aE}{e:bH}
def CF{g:aR}(b:cP g.aI.ao)(d:cj 0 ((g.aI.ao.af.length:Int) -1) g.aI.aa2.af)(f:g.aI.aa2.af.length<=1000):Ok (mT LC g) λq=>ki g.aI.ao g.aI.aa2.af ⟨q.1,q.2⟩:=by
 unfold mT;refine aD (acx g.aI.ao g.aI.aa2.af (by show _<=4611686018427387904;omega) (by have:=b.2.1;show _<=4611686018427387904;omega)) λq c=>ae ?_
 rcases c with⟨_,a⟩ |⟨_,a,_⟩
 .exact a
 .exact absurd d (a b)
def apk{a b:List Int}(o:a.length=b.length)(q:b.length<=1000000)(g:bQ×Int)(h:g.1.an=b):Ok (bO (λc:List Int×Int=>uq LC g c.1 c.2) (a,0)) λl=>l.length=a.length:=by
 refine di b.length (λi c=>c.2=(i:Int)/\c.1.length=a.length) _ (λi c m f=>?_) (λc f=>?_) _ ⟨rfl,rfl⟩
 .obtain⟨j,k⟩:=c;obtain⟨rfl,d⟩:=f;dsimp only at d⊢;unfold uq;rw[h,aC,bn,c6 m,aa,bn,e4,c6 (show i<j.length by omega)];simp only[aa];rw[aJ];exact ae ⟨rfl,by rw[e0];exact d⟩
 .obtain⟨j,k⟩:=c;obtain⟨rfl,d⟩:=f;dsimp only at d⊢;unfold uq;rw[h,aG];exact ae d
def aiX(f:dW n np p)(B:e.abv=6):Ok (xy LC ⟨p,[]⟩ e) λh=>∃g l,h=cT g l/\gi p e g l:=by
 have F:=f.gq;have I:=F.1;unfold xy;dsimp only;rw[aJ,cF,aa,de];refine aV (λ_=>?_) (λ_=>ae ⟨_,_,rfl,.same f (by decide)⟩)
 refine c8 (a:=p.au.aa0) rfl ?_
 refine aD (amZ p.ao p.cI [e.A] p.au.aa0 (by show(1:Nat)<=_;decide) (by show _<=4611686018427387904;omega)) λq j=>?_
 by_cases m:q.2.2=0
 rotate_left
 .rw[aC m];exact ae ⟨_,_,rfl,.same f m⟩
 rw[aG (by rw[m];simp)];have x:q.1.length=p.ao.ai.length:=by
  rcases j with j |j
  .exact j.2.1.1
  .exact absurd m j.1
 have w:∀o:List Int,o.length=p.ao.ai.length->Ok ((fP LC (aR.mk ({p with bz:=(bQ.mk q.2.1 o)}:aE) [])).bind λC=>(rk LC p.bS 1 e.A 1 C).bind λy=>c7 (cT (aR.mk ({p with bz:=(bQ.mk q.2.1 o),bS:=y.1}:aE) []) y.2)) λh=>∃g l,h=cT g l/\gi p e g l:=λo A=>by
  refine c8 (a:=p.au.aa0) rfl ?_
  refine aD (QP f.iI 1 e.A 1 p.au.aa0) λi c=>ae ⟨_,_,rfl,⟨λh0=>.JD _ _ B A c.1 (c.2.1 h0),λ_=>c.1,by simp⟩⟩
 by_cases r:0<(p.bz.an.length:Int)
 .rw[aC r];have H:p.bz.an.length=p.ao.ai.length:=by
   rcases f.pq with e |e
   .rw[e] at r;simp at r
   .rw[e,f.gk]
  obtain⟨i,z,c⟩:=ajz p.ao p.cI p.ao p.cI p.bz p.au.aa0
  by_cases s:i.2=0
  .have G:i.1.an.length=p.ao.ai.length:=by
    rcases c with c |c
    .exact c.2.1.1
    .exact absurd s c.1
   obtain⟨h,E,D⟩:=apk (a:=q.1) (b:=i.1.an) (by omega) (by omega) i rfl;have v:((fP LC (⟨p,[]⟩:aR)).bind λu=>(uk LC p.ao p.cI p.ao p.cI p.bz u).bind λd=>bif c5 (d.2≠0) then c7 (gb d.2:(List Int)⊕Int) else(bO (λk:List Int×Int=>uq LC d k.1 k.2) (q.1,0)).bind λt=>c7 (eo t))=c7 (eo h):=by
    refine(dL (a:=p.au.aa0) rfl).trans ?_
    rw[z,aa,aG (by rw[s];simp),E,aa]
   refine c8 v ?_
   exact w h (by rw[D,x])
  .have v:((fP LC (⟨p,[]⟩:aR)).bind λu=>(uk LC p.ao p.cI p.ao p.cI p.bz u).bind λd=>bif c5 (d.2≠0) then c7 (gb d.2:(List Int)⊕Int) else(bO (λk:List Int×Int=>uq LC d k.1 k.2) (q.1,0)).bind λt=>c7 (eo t))=c7 (gb i.2):=by
    refine(dL (a:=p.au.aa0) rfl).trans ?_
    rw[z,aa,aC s]
   refine c8 v ?_
   exact ae ⟨_,_,rfl,.same f s⟩
 .rw[aG r,aa];exact w q.1 x
def aiy{a:List bC}(d:Fit a){g:aR}{e:bH}{r:Int}(h:aj g.aI.aa2.af e.A=c7 r):Dv LC a g e=c7 (a.any λb=>c5 (b.akw=r)):=by
 unfold Dv;have f:Er LC a g e=c7 (gg (λb=>c5 (b.akw=r)) a):=by
  unfold Er;refine fF (P:=λc=>B0 LC c g e) d (λc _=>?_) λi=>rfl
  unfold B0;rw[h,aa]
 rw[f,aa,gm]
def afn{b:List Int}(c:Fit b):zA LC b=c7 (b.any λa=>c5 (a≠2)):=by
 unfold zA;have d:CC LC b=c7 (gg (λa=>c5 (a≠2)) b):=by
  unfold CC;exact fF (P:=λa=>KV LC a) c (λa _=>rfl) λf=>rfl
 rw[d,aa,gm]
def anG(b:dW n np p)(D:e.abv=7):Ok (vA LC ⟨p,[]⟩ e) λM=>∃g H,M=cT g H/\gi p e g H:=by
 have ad:=b.key.1.1;have af:=b.key.2.1;have N:p.au.aN.length=n:=b.iz;have ai:=b.n3;have m:Fit p.aa2.af:=by show _<=4611686018427387904;omega
 unfold vA;dsimp only;rw[aJ,cF,aa,de];refine aV (λx=>?_) (λ_=>ae ⟨_,_,rfl,.same b (by decide)⟩)
 have y:p.aa2.af[e.A.toNat]?=c7 (p.aa2.af[e.A.toNat]'(by omega)):=c6 _;generalize p.aa2.af[e.A.toNat]'(by omega)=r at y;have O:aj p.aa2.af e.A=c7 r:=by unfold aj;rw[if_pos x.1];exact y
 refine c8 (aiy (by show _<=4611686018427387904;omega) O) ?_
 refine dy (λ_=>ae ⟨_,_,rfl,.same b (by decide)⟩) (λK=>?_)
 have G:∀f,f∈p.au.aN->∀r,p.aa2.af[e.A.toNat]?=c7 r->f.akw≠r:=λf S ac o=>by
  rw[y] at o;injection o with o
  subst o;intro c;have:(p.au.aN.any λf=>c5 (f.akw=r))=true:=h7.2 ⟨f,S,decide_eq_true c⟩;rw[K] at this;cases this
 obtain⟨q,W,t⟩:=Dx (k:=p.aa2) e.A 0 1 m;refine c8 (a:=(q.1,q.2)) (by unfold GQ;rw[W,aa]) ?_
 dsimp only;refine aV (λc=>ae ⟨_,_,rfl,.bad b c rfl⟩) (λc=>?_)
 have t:=t.resolve_left λb=>c b.1
 obtain⟨_,J,_,ah,I,s⟩:=t;have X:ff q.1:=by rw[s];exact J.move (by decide)
 obtain⟨d,R,A⟩:=Dx (k:=q.1) e.A 1 2 (by rw[s];exact m);refine c8 (a:=(d.1,d.2)) (by unfold J0;rw[R,aa]) ?_
 dsimp only;refine aV (λc=>ae ⟨_,_,rfl,.bad b c rfl⟩) (λU=>?_)
 have A:=A.resolve_left λb=>U b.1
 obtain⟨_,_,_,_,_,j⟩:=A;have l:ff d.1:=by rw[j];exact X.move (by decide)
 have z:d.1.af=p.aa2.af:=by rw[j,s]
 have B:d.1.aa2=p.aa2.aa2.set e.A.toNat 2:=by rw[j,s];exact List.set_set _
 have V:d.1.Out=false:=by rw[j]
 rw[afn (by show _<=4611686018427387904;rw[B,e0];omega),aa];refine dy (λ_=>ae ⟨_,_,rfl,.lP rfl (.guard d.1 D z B V I l x.1 G)⟩) (λZ=>?_)
 have F:∀i,i∈d.1.aa2->i=2:=λi Y=>by
  by_cases c:i=2
  .exact c
  .have:(d.1.aa2.any λP=>c5 (P≠2))=true:=h7.2 ⟨i,Y,decide_eq_true c⟩;rw[Z] at this;cases this
 obtain⟨w,Q,C⟩:=ap1 (k:=d.1) (by rw[z];exact m);rw[Q,aa];refine aV (λc=>ae ⟨_,_,rfl,.bad b c rfl⟩) (λab=>?_)
 have C:=C.resolve_left λb=>ab b.1
 obtain⟨_,_,_,_,h⟩:=C;refine c8 (a:=p.au.aa0) rfl ?_
 have u:w.1.af=p.aa2.af:=by rw[h];exact z
 have ag:=b.mq;have ak:=b.gq.2.1;refine aD (Uw p.ao p.bw w.1.af p.au.aa0 (n:=p.au.aN.length) (np:=p.ao.ai.length) (by omega) (by rw[b.gk];omega) b.lC.be (by rw[u];exact m) (by show _<=4611686018427387904;omega) (by rw[N,b.gk];exact b.hZ.mX) rfl) λT L=>ae ⟨_,_,rfl,?_⟩
 rcases L with⟨v,E⟩ |v
 .rw[u] at E;refine .lP v (.shut w.1 T.1 D u ?_ ?_ ?_ I ?_ x.1 G E)
  .rw[h];exact B
  .rw[h];exact F
  .rw[h]
  .rw[h];exact⟨l.1,l.2.1,l.2.2.1,λ_=>F⟩
 .exact .bad b v rfl
def amp(b:dW n np p)(y:e.abv=5):Ok (yb LC ⟨p,[]⟩ e) λE=>∃g B,E=cT g B/\gi p e g B:=by
 have t:p.au.aN.length=n:=b.iz;have M:=b.n3;have L:=b.mq;have K:=b.key.1.1;unfold yb;refine aD (ZX (x:=p.au) e.A e.B b.kN.fit (by have:=b.kj;have:=b.jR;omega)) λq F=>?_
 rcases F with⟨f,N⟩ |⟨f,A,m,o,s,⟨D,r,C,w,u⟩,j⟩
 .rw[aC f];exact ae ⟨_,_,rfl,.bad b f rfl⟩
 rw[aG (by rw[f];simp)];refine c8 (a:=p.au.aa0) (by unfold fP;rw[j]) ?_
 refine aD (RM p.ao p.bw e.A e.B p.au.aa0 (n:=p.au.aN.length) (np:=p.ao.ai.length) (by omega) (by rw[b.gk];omega) b.lC.be (by rw[t,b.gk];exact b.hZ.mX)) λh i=>?_
 by_cases d:h.2=0
 rotate_left
 .rw[aC d,aa,cond_true];exact ae ⟨_,_,rfl,.bad b d rfl⟩
 have i:=i.resolve_right λb=>b.1 d
 rw[aG (by rw[d];simp)];refine c8 (a:=!c5 (0<((p.bq.aA).length:Int))) rfl ?_
 rw[de];refine Or.elim (Decidable.em (0<((p.bq.aA).length:Int))) (λc=>?_) (λc=>?_)
 rotate_left
 .rw[aG c];refine ae ⟨_,_,rfl,.lP d ?_⟩
  exact .swap q.1 h.1 p.bq D r y A m o s C w u j i.2 (.inl ⟨ee.1 (by omega),rfl⟩)
 rw[aC c]
 .have G:p.bq.aA≠[]:=λJ=>by rw[J] at c;simp at c
  refine aD (CF (g:=⟨{p with au:=q.1,bw:=h.1},[]⟩) b.gq b.jY (by show p.aa2.af.length<=_;omega)) λz l=>?_
  refine c8 (a:=p.au.aa0) (by unfold fP;rw[j]) ?_
  have l:ki p.ao p.aa2.af ⟨z.1,z.2⟩:=l;refine aD (RM ⟨z.1,z.2⟩ p.bq e.A e.B p.au.aa0 (n:=p.au.aN.length) (np:=p.ao.ai.length) (by omega) (by rw[b.gk];omega) b.lC.se (by rw[t,b.gk];exact b.je.mX)) λv I=>ae ⟨_,_,rfl,?_⟩
  rcases I with⟨k,H⟩ |⟨k,_⟩
  .exact .lP k (.swap q.1 h.1 v.1 D r y A m o s C w u j i.2 (.inr ⟨_,G,l,H⟩))
  .exact .bad b k rfl
end
section
variable {n np:Nat}{p:aE}{e:bH}
def Uc(c:dW n np p)(b:aB){a:Int}{r:aZ}{nm:List Int}(P:0<=a)(x:p.ao.af[a.toNat]?=c7 r):Ok (xg LC ⟨{p with au:=b},nm⟩ a) λy=>∃g o,y=cT g o/\(o=0->oP {p with au:=b} a g.aI)/\g.aI.bS=p.bS/\g.named=nm:=by
 have m:=c.lC;have ah:=(eE.1 x).1;have ag:=c.uD;have ac:=c.gq.1;have ad:=c.gq.2.1;unfold xg;dsimp only;rw[zS m.fl,aa,mV m.pl,aa,nk m.rd,aa];have V:aj p.ao.af a=c7 r:=by unfold aj;rw[if_pos P];exact x
 have A:p.cI[a.toNat]?=c7 (p.cI[a.toNat]'(by omega)):=c6 _;generalize p.cI[a.toNat]'(by omega)=f at A;have Z:aj p.cI a=c7 f:=by unfold aj;rw[if_pos P];exact A
 rw[V,aa,x,aa,Z,aa,A,aa,aa];have ab:ak.mk p.ao.ai (p.ao.af.set a.toNat {r with eN:=true})=cY p.ao a:=by unfold cY;rw[x]
 rw[ab];show Ok ((fP LC ⟨{p with au:=b,ao:=cY p.ao a},nm⟩).bind λW=>(kW LC (cY p.ao a) p.bw W).bind _) _
 refine c8 (a:=b.aa0) rfl ?_
 obtain⟨q,O,B⟩:=Gq (cY p.ao a) p.bw b.aa0 m.be (by show p.ao.ai.length<=4611686018427387904;omega);rw[O,aa]
 by_cases k:q.2=0
 rotate_left
 .rw[aC k];exact ae ⟨⟨{p with au:=b,ao:=cY p.ao a,bw:=q.1},nm⟩,q.2,rfl,λc=>absurd c k,rfl,rfl⟩
 rw[aG (by rw[k];simp)];have B:=B.resolve_right λc=>c.1 k
 obtain⟨_,D,_,_,K⟩:=B;have Q:kW LC (cY p.ao a) p.bw b.aa0=c7 (q.1,0):=by rw[O, <-k]
 have Y:=uF p.ao a;refine c8 (a:=c5 (0<(p.bq.aA.length:Int))) rfl ?_
 have I:∀(d:aL) (l:ak),((p.bq.aA=[]/\d=p.bq)\/(p.bq.aA≠[]/\ki (cY p.ao a) p.aa2.af l/\gG (λT R=>mP l T b.aa0 R) p.bq.aA d.aA))->
  Ok (bif c5 (0<((p.bz.an).length:Int)) then
  (fP LC ⟨{p with au:=b,ao:=cY p.ao a,bw:=q.1,bq:=d},nm⟩).bind λX=>
  (yg LC (p.cI.set a.toNat (bI.mk 0 0)) p.ao p.cI (cY p.ao a) p.bz X).bind λj=>
  bif c5 (j.2.2≠0) then
   c7 (cT ⟨{p with au:=b,ao:=cY p.ao a,bw:=q.1,bq:=d,bz:=j.2.1},nm⟩ j.2.2)
  else
   c7 (cT ⟨{p with au:=b,ao:=cY p.ao a,bw:=q.1,bq:=d,cI:=j.1,bz:=j.2.1},nm⟩ 0)
  else
   c7 (cT ⟨{p with au:=b,ao:=cY p.ao a,bw:=q.1,bq:=d,cI:=p.cI.set a.toNat (bI.mk 0 0)},nm⟩ 0)) λy=>∃g o,y=cT g o/\(o=0->oP {p with au:=b} a g.aI)/\g.aI.bS=p.bS/\g.named=nm:=by
   intro d l J;refine aV (λE=>?_) (λE=>?_)
   .refine c8 (a:=b.aa0) rfl ?_
    refine aD (akv p.ao p.cI (cY p.ao a) (p.cI.set a.toNat (bI.mk 0 0)) p.bz b.aa0) λL N=>?_
    refine aV (λi=>ae ⟨_,_,rfl,λc=>absurd c i,rfl,rfl⟩) (λi=>?_)
    have S:=N.2.resolve_right λc=>i c.1
    refine ae ⟨_,_,rfl,λ_=>⟨q.1,d,L.1,L.2.1,l,rfl,by rw[N.1,e0],Q,D,K,J,.inr ⟨λi=>by rw[i] at E;simp at E,S.2.1.1⟩⟩,rfl,rfl⟩
   .exact ae ⟨_,_,rfl,λ_=>⟨q.1,d,_,p.bz,l,rfl,by rw[e0],Q,D,K,J,.inl ⟨ee.1 (show p.bz.an.length=0 by omega),rfl⟩⟩,rfl,rfl⟩
 by_cases t:0<(p.bq.aA.length:Int)
 .rw[aC t];have U:p.bq.aA≠[]:=λi=>by rw[i] at t;simp at t
  obtain⟨z,M,u⟩:=CF (g:=⟨{p with au:=b,ao:=cY p.ao a,bw:=q.1},nm⟩) D (by show cj 0 (((cY p.ao a).af.length:Int) -1) p.aa2.af;rw[Y];exact c.jY) (by show p.aa2.af.length<=_;have:=c.key.1.1;omega);have u:ki (cY p.ao a) p.aa2.af ⟨z.1,z.2⟩:=u;obtain⟨v,H,G⟩:=Gq ⟨z.1,z.2⟩ p.bq b.aa0 m.se (by have:=congrArg ih u.pl;show z.1.length<=4611686018427387904;have af:z.1.length=p.ao.ai.length:=this;omega)
  by_cases w:v.2=0
  .have F:((mT LC ⟨{p with au:=b,ao:=cY p.ao a,bw:=q.1},nm⟩).bind λs=>(fP LC ⟨{p with au:=b,ao:=cY p.ao a,bw:=q.1},nm⟩).bind λC=>(kW LC (ak.mk s.1 s.2) p.bq C).bind λh=>
    bif c5 (h.2≠0) then c7 (gb (iv ⟨{p with au:=b,ao:=cY p.ao a,bw:=q.1,bq:=h.1},nm⟩ h.2):jk⊕jU) else c7 (eo (fj ⟨{p with au:=b,ao:=cY p.ao a,bw:=q.1,bq:=h.1},nm⟩)))=c7 (eo (fj ⟨{p with au:=b,ao:=cY p.ao a,bw:=q.1,bq:=v.1},nm⟩)):=by
    rw[M,aa];refine(dL (a:=b.aa0) rfl).trans ?_
    rw[H,aa,aG (by rw[w];simp)]
   refine c8 F ?_
   have G:=G.resolve_right λc=>c.1 w
   exact I v.1 ⟨z.1,z.2⟩ (.inr ⟨U,u,G.2.2.2.2⟩)
  .have F:((mT LC ⟨{p with au:=b,ao:=cY p.ao a,bw:=q.1},nm⟩).bind λs=>(fP LC ⟨{p with au:=b,ao:=cY p.ao a,bw:=q.1},nm⟩).bind λC=>(kW LC (ak.mk s.1 s.2) p.bq C).bind λh=>
    bif c5 (h.2≠0) then c7 (gb (iv ⟨{p with au:=b,ao:=cY p.ao a,bw:=q.1,bq:=h.1},nm⟩ h.2):jk⊕jU) else c7 (eo (fj ⟨{p with au:=b,ao:=cY p.ao a,bw:=q.1,bq:=h.1},nm⟩)))=c7 (gb (iv ⟨{p with au:=b,ao:=cY p.ao a,bw:=q.1,bq:=v.1},nm⟩ v.2)):=by
    rw[M,aa];refine(dL (a:=b.aa0) rfl).trans ?_
    rw[H,aa,aC w]
   refine c8 F ?_
   exact ae ⟨⟨{p with au:=b,ao:=cY p.ao a,bw:=q.1,bq:=v.1},nm⟩,v.2,rfl,λc=>absurd c w,rfl,rfl⟩
 .rw[aG t,aa];exact I p.bq p.ao (.inl ⟨ee.1 (by omega),rfl⟩)
def Oc(a:dW n np p){nm:List Int}:Ok (tM LC ⟨p,nm⟩ e) λf=>∃g c,f=cT g c/\(c=0->fw p.au/\0<=e.A/\(∃r,p.au.ao.af[e.A.toNat]?=c7 r/\r.eN=false)/\oP {p with au:={p.au with ao:=cY p.au.ao e.A,aN:=p.au.aN.map (n8 e.A)}} e.A g.aI)/\g.aI.bS=p.bS/\g.named=nm:=by
 unfold tM;refine aD (Uf (x:=p.au) e.A a.kN.fit) λq l=>?_
 rcases l with⟨b,i⟩ |⟨b,i,h,⟨r,d,u⟩,k⟩
 .rw[aC b];exact ae ⟨_,_,rfl,λa=>absurd a b,rfl,rfl⟩
 rw[aG (by rw[b];simp),k];refine aD (Uc a {p.au with ao:=cY p.au.ao e.A,aN:=p.au.aN.map (n8 e.A)} (r:=r) (nm:=nm) h (by rw[<-a.fN];exact d)) λf j=>?_
 obtain⟨g,c,rfl,o,m,s⟩:=j;exact ae ⟨g,c,rfl,λt=>⟨i,h,⟨r,d,u⟩,o t⟩,m,s⟩
def agT(b:dW n np p)(f:e.abv=11):Ok (tM LC ⟨p,[]⟩ e) λc=>∃g a,c=cT g a/\gi p e g a:=alt (Oc b) λc i=>by
 obtain⟨g,a,m,k,o,l⟩:=i;refine⟨g,a,m,λr=>?_,λ_=>by rw[o];exact gj.refl b.iI,by rw[l];simp⟩
 obtain⟨d,h,j,q⟩:=k r;exact .xZ _ f d h j q
def akk(r:VA p.bS):Ok (bO (λb:List Int×Int=>Co LC ⟨p,[]⟩ b.1 b.2) ([],0)) λg=>g.length<=64/\∀a,a∈g->∃c,c∈p.bS/\fX c 2 a:=by
 have k:=r.1;refine di p.bS.length (λi b=>b.2=(i:Int)/\b.1.length<=i/\∀a,a∈b.1->∃c,c∈p.bS/\fX c 2 a) _ (λi b o h=>?_) (λb h=>?_) _ ⟨rfl,gx _,λa d=>by cases d⟩
 .obtain⟨t,s⟩:=b;obtain⟨rfl,j,d⟩:=h;dsimp only at j d⊢;unfold Co;dsimp only;have l:=c6 o;have m:=dv o;generalize p.bS[i]=c at l m;rw[aC,bn,l,aa,aJ];refine aD (Q:=λg:List Int=>g.length<=i+1/\∀a,a∈g->∃c,c∈p.bS/\fX c 2 a) ?_ λg k=>ae ⟨rfl,k⟩
  refine aV (λq=>?_) (λ_=>ae ⟨by omega,d⟩)
  rw[dm (by decide) (by omega),aa];refine ae ⟨by rw[ft];simp;omega,λa f=>?_⟩
  rcases ea.1 f with f |f
  .exact d a f
  .rw[dT] at f;exact⟨c,m,q,f.symm⟩
 .obtain⟨t,s⟩:=b;obtain⟨rfl,j,d⟩:=h;dsimp only at j d⊢;unfold Co;dsimp only;rw[aG];exact ae ⟨by omega,d⟩
def abh(s:VA p.bS)(d:ak×List Int×Int)(w:d.2.1.length<=768):Ok (bO (λg:nH=>tB LC d ⟨p,[]⟩ (tP p.cq p.bZ p.bB g) (um g)) (jw ⟨p,d.2.1⟩ 0)) λf=>∃c,f=fj ⟨{p with bS:=c},d.2.1⟩/\gj p.bS c:=by
 refine di d.2.1.length (λi g=>∃c,g=jw ⟨{p with bS:=c},d.2.1⟩ (i:Int)/\gj p.bS c) _ (λi g v k=>?_) (λg k=>?_) _ ⟨p.bS,rfl,gj.refl s⟩
 .obtain⟨c,rfl,h⟩:=k;show Ok (tB LC d ⟨p,[]⟩ ⟨{p with bS:=c},d.2.1⟩ (i:Int)) _
  unfold tB;rw[aC,bn,c6 v,aa];refine c8 (a:=p.au.aa0) rfl ?_
  obtain⟨q,t,r⟩:=QP h.1 2 (d.2.1[i]) 2 p.au.aa0;refine c8 t ?_
  have fin:∀j,gj p.bS j->Ok (c7 (eo (jw ⟨{p with bS:=j},d.2.1⟩ (c3 c4 ((i:Int)+1)))):Option (nH⊕jk)) λf=>match f with
   | .inl o=>∃c,o=jw ⟨{p with bS:=c},d.2.1⟩ ((i+1:Nat):Int)/\gj p.bS c
   | .inr b=>∃c,b=fj ⟨{p with bS:=c},d.2.1⟩/\gj p.bS c:=λj u=>by
   rw[aJ];exact ae ⟨j,rfl,u⟩
  by_cases m:q.2=0
  .rw[aC m,aa];exact alt (fin q.1 (h.trans r.1)) λf l=>by cases f <;> exact l
  .rw[aG m,aa];exact alt (fin c h) λf l=>by cases f <;> exact l
 .obtain⟨c,rfl,h⟩:=k;show Ok (tB LC d ⟨p,[]⟩ ⟨{p with bS:=c},d.2.1⟩ (d.2.1.length:Int)) _
  unfold tB;rw[aG];exact ae ⟨c,rfl,h⟩
def af5(c:dW n np p)(B:fw p.au)(z:e.abv=12):Ok (xQ LC ⟨p,[]⟩ e) λl=>∃g k,l=cT g k/\gi p e g k:=by
 have j:=c.lC;have J:=c.gq.1;have K:=c.gq.2.1;have M:0<=p.au.aa0/\p.au.aa0<=2147483648:=B.2.2.2.2.1;unfold xQ;dsimp only;rw[aJ,cF,aa]
 by_cases o:0<=e.A/\e.A<=(p.ao.af.length:Int) -1
 rotate_left
 .rw[decide_eq_false o,Bool.not_false,cond_true,aa,cond_true];exact ae ⟨_,_,rfl,.same c (by decide)⟩
 rw[decide_eq_true o,e5,cond_false];have D:aj p.ao.af e.A=c7 (p.ao.af[e.A.toNat]'(by omega)):=by unfold aj;rw[if_pos o.1];exact c6 _
 rw[D,aa,aa];refine dy (λ_=>ae ⟨_,_,rfl,.same c (by decide)⟩) (λ_=>?_)
 refine c8 (a:=p.au.aa0) rfl ?_
 rw[aJ,Oo j.sm,aa];refine aD (akk c.iI) λal x=>?_
 refine c8 (a:=p.au.aa0) rfl ?_
 have L:(filled p.bz (p.au.aa0+600)).length<=64:=by
  have I:(filled p.bz (p.au.aa0+600)).length<=p.bz.an.length:=pQ;have s:=c.mq;have u:p.bz.an.length<=64:=by
   rcases c.pq with i |i
   .rw[i];simp
   .omega
  omega
 obtain⟨q,E,f⟩:=Ws (m:=p.ao) (e:={p.bR with dg:=filled p.bz (p.au.aa0+600)}) (b:=p.bw) (a:=e.A) (al:=al) (t:=p.au.aa0) (ahead:=600) j.pl j.rd ⟨c.kI.1.s,by show(filled p.bz (p.au.aa0+600)).length<=4611686018427387904;omega,c.kI.1.h⟩ j.be (by show al.length<=4611686018427387904;have:=x.1;omega);rw[E,aa]
 by_cases d:q.2.2=0
 .rw[aG (by rw[d];decide),aa];rw[aG (by rw[d];simp)];refine aD (Oc (p:=p) (e:=e) c (nm:=q.2.1)) λl r=>?_
  obtain⟨g,k,rfl,s,i,u⟩:=r;refine ae ⟨g,k,rfl,λh=>?_,λ_=>by rw[i];exact gj.refl c.iI,by rw[u];exact f.1⟩
  obtain⟨y,F,A,H⟩:=s h;exact .xY _ al q z x.2 (f.2 d) y F A H
 .by_cases w:q.2.2=46
  .rw[aC w];obtain⟨l,C,v,r,G⟩:=abh c.iI q f.1;refine c8 (a:=fj ⟨{p with bS:=v},q.2.1⟩) ?_ ?_
   .refine(dL C).trans ?_
    rw[r]
    rfl
   .rw[aC d];exact ae ⟨⟨{p with bS:=v},q.2.1⟩,q.2.2,rfl,λh=>absurd h d,λ_=>G,f.1⟩
  .rw[aG w,aa,aC d];exact ae ⟨⟨p,q.2.1⟩,q.2.2,rfl,λh=>absurd h d,λ_=>gj.refl c.iI,f.1⟩
end
section
variable {n np:Nat}{p:aE}{e:bH}
def eL(p:aE)(b:bA)(a:b7):aE:={p with aa2:=b,cL:=a}
def aad(d:b7){f:bA}(h0:ff f)(W:f.af=p.aa2.af)(T:f.Out=false):Ok (bO (λt:nH=>qm LC ⟨eL p f d,[]⟩ ⟨p,[]⟩ (tP p.cq p.bZ p.bB t) (um t)) (jw ⟨eL p f d,[]⟩ 0)) λc=>(∃k,c=gb (fj ⟨eL p k d,[]⟩)/\ff k/\k.af=p.aa2.af/\k.Out=false/\∀n,n∈k.aa2->n=0)\/∃k g,c=eo (iv ⟨eL p k d,[]⟩ g)/\g≠0:=by
 have Z:=h0.2.1;have ac:=h0.1.1;refine di f.aa2.length (λi t=>∃k,t=jw ⟨eL p k d,[]⟩ (i:Int)/\ff k/\k.af=p.aa2.af/\k.Out=false/\k.aa2.length=f.aa2.length/\∀(b:Nat) n,b<i->k.aa2[b]?=c7 n->n=0) _ (λi t ad J=>?_) (λt J=>?_) _ ⟨f,rfl,h0,W,T,rfl,λb n u=>by omega⟩
 .obtain⟨k,rfl,s,G,I,N,C⟩:=J;show Ok (qm LC ⟨eL p f d,[]⟩ ⟨p,[]⟩ ⟨eL p k d,[]⟩ (i:Int)) _
  unfold qm;have z:k.aa2[i]?=c7 (k.aa2[i]'(by omega)):=c6 _;generalize k.aa2[i]'(by omega)=v at z;have af:=s.2.2.1 v (fC z);rw[aC (by show(i:Int)<(f.aa2.length:Int);omega)];show Ok ((aj k.aa2 (i:Int)).bind _) _
  rw[bn,z,aa];have bad:∀(q:bA) (g:Int),g≠0->Ok (c7 (gb (eo (iv ⟨eL p q d,[]⟩ g))):Option (nH⊕(jU⊕jk))) λc=>match c with
   | .inl w=>∃k,w=jw ⟨eL p k d,[]⟩ ((i+1:Nat):Int)/\ff k/\k.af=p.aa2.af/\k.Out=false/\k.aa2.length=f.aa2.length/\∀(b:Nat) n,b<i+1->k.aa2[b]?=c7 n->n=0
   | .inr c=>(∃k,c=gb (fj ⟨eL p k d,[]⟩)/\ff k/\k.af=p.aa2.af/\k.Out=false/\∀n,n∈k.aa2->n=0)\/∃k g,c=eo (iv ⟨eL p k d,[]⟩ g)/\g≠0:=λq g Y=>ae (.inr ⟨q,g,rfl,Y⟩)
  have fin:∀q:bA,ff q->q.af=p.aa2.af->q.Out=false->q.aa2.length=f.aa2.length->(∀(b:Nat) n,b<i+1->q.aa2[b]?=c7 n->n=0)->Ok (c7 (eo (jw ⟨eL p q d,[]⟩ (c3 c4 ((i:Int)+1)))):Option (nH⊕(jU⊕jk))) λc=>match c with
   | .inl w=>∃k,w=jw ⟨eL p k d,[]⟩ ((i+1:Nat):Int)/\ff k/\k.af=p.aa2.af/\k.Out=false/\k.aa2.length=f.aa2.length/\∀(b:Nat) n,b<i+1->k.aa2[b]?=c7 n->n=0
   | .inr c=>(∃k,c=gb (fj ⟨eL p k d,[]⟩)/\ff k/\k.af=p.aa2.af/\k.Out=false/\∀n,n∈k.aa2->n=0)\/∃k g,c=eo (iv ⟨eL p k d,[]⟩ g)/\g≠0:=λq x E L D F=>by
   rw[aJ];exact ae ⟨q,rfl,x,E,L,D,F⟩
  have O:∀q:bA,ff q->q.af=p.aa2.af->q.Out=false->q.aa2.length=f.aa2.length->(∀(b:Nat) n,b<i->q.aa2[b]?=c7 n->n=0)->(∃y,q.aa2[i]?=c7 y/\(y=0\/y=1))->Ok ((aj q.aa2 (i:Int)).bind λV=>
   (bif c5 (V=1) then
    (vJ LC q (i:Int)).bind λA=>
    bif c5 (A.2≠0) then c7 (gb (iv ⟨eL p A.1 d,[]⟩ A.2)) else c7 (eo (fj ⟨eL p A.1 d,[]⟩))
    else c7 (eo (fj ⟨eL p q d,[]⟩)):Option (jk⊕jU)).bind λX=>
   j2 (λU=>c7 (eo (jw (lu p.cq p.bZ p.bB U) (c3 c4 ((i:Int)+1))))) (λP=>c7 (gb (eo (iv (nT p.cq p.bZ p.bB P) (nO P))))) X) λc=>match c with
   | .inl w=>∃k,w=jw ⟨eL p k d,[]⟩ ((i+1:Nat):Int)/\ff k/\k.af=p.aa2.af/\k.Out=false/\k.aa2.length=f.aa2.length/\∀(b:Nat) n,b<i+1->k.aa2[b]?=c7 n->n=0
   | .inr c=>(∃k,c=gb (fj ⟨eL p k d,[]⟩)/\ff k/\k.af=p.aa2.af/\k.Out=false/\∀n,n∈k.aa2->n=0)\/∃k g,c=eo (iv ⟨eL p k d,[]⟩ g)/\g≠0:=λq x E L D F ⟨y,S,ab⟩=>by
   rw[bn,S,aa]
   by_cases R:y=1
   .rw[aC R];obtain⟨h,H,K⟩:=Dx (k:=q) (i:Int) 1 0 (by show _<=4611686018427387904;have:=x.1.1;omega);rw[show vJ LC q (i:Int)=c7 h by unfold vJ;rw[H,aa],aa]
    by_cases r:h.2=0
    .rw[aG (by rw[r];simp),aa];obtain⟨_,_,_,_,_,j⟩:=K.resolve_left λM=>M.1 r
     rw[e4] at j;refine alt (fin h.1 (by rw[j];exact x.move (by decide)) (by rw[j];exact E) (by rw[j]) (by rw[j,e0];exact D) λb o u l=>?_) λc m=>by cases c <;> exact m
     rw[j] at l
     by_cases B:i=b
     .subst B;have:(q.aa2.set i 0)[i]?=c7 o:=l;rw[ev (by omega)] at this;injection this with this
      exact this.symm
     .have:(q.aa2.set i 0)[b]?=c7 o:=l;rw[ej B] at this;exact F b o (by omega) this
    .rw[aC r,aa];exact alt (bad h.1 h.2 r) λc m=>by cases c <;> exact m
   .rw[aG R,aa];refine alt (fin q x E L D λb o u l=>?_) λc m=>by cases c <;> exact m
    by_cases B:i=b
    .subst B;rw[S] at l;injection l with l
     omega
    .exact F b o (by omega) l
  by_cases Q:v=2
  .rw[aC Q];obtain⟨h,H,K⟩:=Dx (k:=k) (i:Int) 2 1 (by show _<=4611686018427387904;have:=s.1.1;omega)
   by_cases r:h.2=0
   .obtain⟨_,_,_,_,_,j⟩:=K.resolve_left λM=>M.1 r
    rw[e4] at j;refine c8 (a:=eo (fj ⟨eL p h.1 d,[]⟩)) ?_ ?_
    .show((qu LC k (i:Int)).bind _)=_
     rw[show qu LC k (i:Int)=c7 h by unfold qu;rw[H,aa],aa,aG (by rw[r];simp)]
     rfl
    .refine alt (O h.1 (by rw[j];exact s.move (by decide)) (by rw[j];exact G) (by rw[j]) (by rw[j,e0];exact N) (λb o u l=>?_) ⟨1,by rw[j];exact ev (by omega),.inr rfl⟩) λc m=>by cases c <;> exact m
     rw[j] at l;have:(k.aa2.set i 1)[b]?=c7 o:=l;rw[ej (by omega)] at this;exact C b o u this
   .refine c8 (a:=gb (iv ⟨eL p h.1 d,[]⟩ h.2)) ?_ ?_
    .show((qu LC k (i:Int)).bind _)=_
     rw[show qu LC k (i:Int)=c7 h by unfold qu;rw[H,aa],aa,aC r]
     rfl
    .exact alt (bad h.1 h.2 r) λc m=>by cases c <;> exact m
  .rw[aG Q,aa];exact alt (O k s G I N C ⟨v,z,by omega⟩) λc m=>by cases c <;> exact m
 .obtain⟨k,rfl,s,G,I,N,C⟩:=J;show Ok (qm LC ⟨eL p f d,[]⟩ ⟨p,[]⟩ ⟨eL p k d,[]⟩ (f.aa2.length:Int)) _
  unfold qm;rw[aG (by show ¬(f.aa2.length:Int)<(f.aa2.length:Int);omega)];refine ae (.inl ⟨k,rfl,s,G,I,λo l=>?_⟩)
  obtain⟨b,u,rfl⟩:=dt.1 l;exact C b _ (by omega) (c6 u)
def YJ(c:dW n np p)(I:e.abv=13):Ok (xE LC ⟨p,[]⟩ e) λi=>∃g f,i=cT g f/\gi p e g f:=by
 have Q:=c.key.1.1;have L:=c.key.2.1;unfold xE;refine aD (O5 (k:=p.aa2) (by omega) (by omega)) λR L=>?_
 refine aV (λ_=>ae ⟨_,_,rfl,.same c (by decide)⟩) (λ_=>?_)
 have D:∀(b:b7) (k:bA),(b=p.cL/\p.cL.State=0\/b=⟨0,0,0,0⟩)->ff k->k.af=p.aa2.af->k.Out=false->Ok ((bO (λs=>qm LC ⟨eL p k b,[]⟩ ⟨p,[]⟩ (tP p.cq p.bZ p.bB s) (um s)) (jw ⟨eL p k b,[]⟩ 0)).bind λz=>
  j2 (λj=>c7 (cT (nT p.cq p.bZ p.bB j) (nO j))) (λu=>let l:=lu p.cq p.bZ p.bB u;c7 (cT (aR.mk ({l.aI with bq:=(aL.mk ([]:List ay))}:aE) l.named) 0)) z) λi=>∃g f,i=cT g f/\gi p e g f:=λb k m E N J=>by
  refine aD (aad b E N J) λi v=>?_
  rcases v with⟨q,rfl,F,O,G,H⟩ |⟨q,f,rfl,P⟩
  .exact ae ⟨⟨{p with aa2:=q,cL:=b,bq:=⟨[]⟩},[]⟩,0,rfl,.lP rfl (.JF q b I O F G H m)⟩
  .exact ae ⟨⟨eL p q b,[]⟩,f,rfl,.bad c P rfl⟩
 have B:∀b:b7,(b=p.cL/\p.cL.State=0\/b=⟨0,0,0,0⟩)->Ok ((bif p.aa2.Out then
  (vQ LC p.aa2).bind λo=>
  bif c5 (o.2≠0) then c7 (gb (iv ⟨eL p o.1 b,[]⟩ o.2)) else c7 (eo (fj ⟨eL p o.1 b,[]⟩))
  else c7 (eo (fj ⟨eL p p.aa2 b,[]⟩)):Option (jk⊕jU)).bind λM=>
  j2 (λK=>
   let C:=lu p.cq p.bZ p.bB K
   (bO (λs=>qm LC C ⟨p,[]⟩ (tP p.cq p.bZ p.bB s) (um s)) (jw C 0)).bind λz=>
    j2 (λj=>c7 (cT (nT p.cq p.bZ p.bB j) (nO j))) (λu=>let l:=lu p.cq p.bZ p.bB u;c7 (cT (aR.mk ({l.aI with bq:=(aL.mk ([]:List ay))}:aE) l.named) 0)) z)
   (λA=>c7 (cT (nT p.cq p.bZ p.bB A) (nO A))) M) λi=>∃g f,i=cT g f/\gi p e g f:=λb m=>by
   cases v:p.aa2.Out with
   |false=>
    rw[cond_false,aa];exact D b p.aa2 m c.key rfl v
   |true=>
    rw[cond_true];obtain⟨d,r,w⟩:=Zw (k:=p.aa2) (by show _<=4611686018427387904;omega);rw[r,aa]
    by_cases h:d.2=0
    .rw[aG (by rw[h];simp),aa];obtain⟨_,_,t⟩:=w.resolve_left λc=>c.1 h
     exact D b d.1 m (by rw[t];exact⟨c.key.1,c.key.2.1,c.key.2.2.1,λc=>by cases c⟩) (by rw[t]) (by rw[t])
    .rw[aC h,aa];exact ae ⟨⟨eL p d.1 b,[]⟩,d.2,rfl,.bad c h rfl⟩
 by_cases y:p.cL.State=0
 .rw[aG (by show ¬p.cL.State≠0;simp[y]),aa];exact B p.cL (.inl ⟨rfl,y⟩)
 .rw[aC y];obtain⟨d,r,w⟩:=Yc (x:=p.bM) (s:=p.cL) p.au.aa0 (eH c.qx (by decide))
  by_cases h:d.2=0
  .refine c8 (a:=eo (fj ⟨eL p p.aa2 d.1,[]⟩)) ?_ ?_
   .refine(dL (a:=p.au.aa0) rfl).trans ?_
    refine(dL r).trans ?_
    rw[aG (by rw[h];simp)]
    rfl
   .exact B d.1 (.inr (w.resolve_left λc=>c.1 h).2)
  .refine c8 (a:=gb (iv ⟨eL p p.aa2 d.1,[]⟩ d.2)) ?_ ?_
   .refine(dL (a:=p.au.aa0) rfl).trans ?_
    refine(dL r).trans ?_
    rw[aC h]
    rfl
   .exact ae ⟨⟨eL p p.aa2 d.1,[]⟩,d.2,rfl,.bad c h rfl⟩
end
section
variable {n np:Nat}{p:aE}{e:bH}
structure tN (n np:Nat) (p:aE) (rd:aS):Prop where
 n3:n<=3
 mq:np<=64
 gq:cP p.ao
 gk:p.ao.ai.length=np
 jY:cj 0 ((p.ao.af.length:Int) -1) p.aa2.af
 OG:p.aa2.af.length<=12
 hZ:fM n np p.bw
 bne:p.bw.aA≠[]
 je:fM n np p.bq
 BV:Fit rd.ai
 OF:0<=rd.dY/\rd.dY<=10
 OH:1<=rd.dX/\rd.dX<=600
def aiU{m h:aS}{r:aT}{t:List aT}{u:Int}(f:tN n np p h){i:List Int}{b c:aL}(s:fv p.ao p.aa2.af p.au.aa0 m h r t u p.bw p.bq b c){d:dS}(F:DS r m d):Ok (A5 LC ⟨dR p b c,i⟩ d h) λx=>∃l k,x=ol ⟨dR p l k,i⟩ d h/\fv p.ao p.aa2.af p.au.aa0 m h r t u p.bw p.bq l k:=by
 obtain⟨⟨T,X⟩,J,W⟩:=s.shape f.gk f.hZ f.bne f.je;have V:=f.gq.1;have I:Fit p.ao.ai:=by show _<=4611686018427387904;omega
 unfold A5;obtain⟨q,R,L⟩:=LG p.ao b d.Tag h.ai d.an (min d.To p.au.aa0) (T.pR f.n3 f.mq) f.BV I;refine c8 (a:=La d h ⟨dR p b c,i⟩ q.1 q.2) ?_ ?_
 .unfold uX;refine(dL (a:=p.au.aa0) rfl).trans ?_
  refine(dL R).trans rfl
 have D:∀j,fv p.ao p.aa2.af p.au.aa0 m h r t u p.bw p.bq j c->Ok ((ra LC ⟨dR p j c,i⟩).bind λQ=>bif (!Q) then c7 (ol ⟨dR p j c,i⟩ d h) else(mT LC ⟨dR p j c,i⟩).bind λH=>(uX LC d h ⟨dR p j c,i⟩ (ak.mk H.1 H.2) c).bind λo=>
  let E:=F7 o
  let C:=HJ o
  let A:=G2 o
  let P:=IB o
  let M:=HV o
  bif c5 (M=0) then c7 (ol (aR.mk ({A.aI with bq:=P}:aE) A.named) E C) else c7 (ol A E C)) λx=>∃l k,x=ol ⟨dR p l k,i⟩ d h/\fv p.ao p.aa2.af p.au.aa0 m h r t u p.bw p.bq l k:=λj B=>by
  refine c8 (a:=c5 (0<(c.aA.length:Int))) rfl ?_
  rw[de];refine aV (λG=>?_) (λ_=>ae ⟨j,c,rfl,B⟩)
  have N:c.aA≠[]:=λs=>by rw[s] at G;simp at G
  refine aD (CF (g:=⟨dR p j c,i⟩) f.gq f.jY (by show p.aa2.af.length<=_;have:=f.OG;omega)) λz w=>?_
  have w:ki p.ao p.aa2.af ⟨z.1,z.2⟩:=w;have U:z.1.length=p.ao.ai.length:=congrArg ih w.pl;obtain⟨v,K,S⟩:=LG ⟨z.1,z.2⟩ c d.Tag h.ai d.an (min d.To p.au.aa0) (J.pR f.n3 f.mq) f.BV (by show z.1.length<=4611686018427387904;omega);refine c8 (a:=La d h ⟨dR p j c,i⟩ v.1 v.2) ?_ ?_
  .unfold uX;refine(dL (a:=p.au.aa0) rfl).trans ?_
   refine(dL K).trans rfl
  show Ok (bif c5 (v.2=0) then c7 (ol ⟨dR p j v.1,i⟩ d h) else c7 (ol ⟨dR p j c,i⟩ d h)) _
  refine aV (λO=>ae ⟨j,v.1,rfl,?_⟩) (λ_=>ae ⟨j,c,rfl,B⟩)
  exact .Lt d _ B F N w (S.resolve_right λf=>f.1 O).2
 by_cases y:q.2=0
 .refine c8 (a:=qI ⟨dR p q.1 c,i⟩) ?_ (D q.1 (.Ls d s F (L.resolve_right λf=>f.1 y).2))
  show(bif c5 (q.2=0) then _ else _)=_
  rw[aC y]
  rfl
 .refine c8 (a:=qI ⟨dR p b c,i⟩) ?_ (D b s)
  show(bif c5 (q.2=0) then _ else _)=_
  rw[aG y]
  rfl
def afb{w d:aS}{r:aT}{l:List aT}{s:Int}(c:tN n np p d){j:List Int}{b f:aL}(t:fv p.ao p.aa2.af p.au.aa0 w d r l s p.bw p.bq b f){h:Int}{a:dC}(B:h∉r.aw)(H:nc l s h d a):Ok (zg LC ⟨dR p b f,j⟩ h d a (min a.To p.au.aa0)) λx=>∃o m,x=nJ ⟨dR p o m,j⟩ h d a (min a.To p.au.aa0)/\fv p.ao p.aa2.af p.au.aa0 w d r l s p.bw p.bq o m:=by
 obtain⟨⟨V,Z⟩,L,Y⟩:=t.shape c.gk c.hZ c.bne c.je;have X:=c.gq.1;have K:Fit p.ao.ai:=by show _<=4611686018427387904;omega
 unfold zg;obtain⟨q,T,N⟩:=Sj p.ao b h d.ai a.an (min a.To p.au.aa0) ((d.dY+1)*d.dX) (V.pR c.n3 c.mq) c.BV K;refine c8 (a:=Ft h d a (min a.To p.au.aa0) q.1 q.2) ?_ ?_
 .unfold uQ;refine(dL (LV c.OF c.OH)).trans ?_
  refine(dL T).trans rfl
 have C:∀i,fv p.ao p.aa2.af p.au.aa0 w d r l s p.bw p.bq i f->Ok ((ra LC ⟨dR p i f,j⟩).bind λO=>bif (!O) then c7 (nJ ⟨dR p i f,j⟩ h d a (min a.To p.au.aa0)) else(mT LC ⟨dR p i f,j⟩).bind λJ=>(uQ LC h d a (min a.To p.au.aa0) (ak.mk J.1 J.2) f).bind λk=>
  let I:=Gy k
  let D:=Ib k
  let E:=HF k
  let F:=I2 k
  let S:=Ir k
  let P:=JK k
  bif c5 (P=0) then c7 (nJ (aR.mk ({ (dR p i f) with bq:=S}:aE) j) I D E F) else c7 (nJ ⟨dR p i f,j⟩ I D E F)) λx=>∃o m,x=nJ ⟨dR p o m,j⟩ h d a (min a.To p.au.aa0)/\fv p.ao p.aa2.af p.au.aa0 w d r l s p.bw p.bq o m:=λi A=>by
  refine c8 (a:=c5 (0<(f.aA.length:Int))) rfl ?_
  rw[de];refine aV (λG=>?_) (λ_=>ae ⟨i,f,rfl,A⟩)
  have Q:f.aA≠[]:=λt=>by rw[t] at G;simp at G
  refine aD (CF (g:=⟨dR p i f,j⟩) c.gq c.jY (by show p.aa2.af.length<=_;have:=c.OG;omega)) λz u=>?_
  have u:ki p.ao p.aa2.af ⟨z.1,z.2⟩:=u;have W:z.1.length=p.ao.ai.length:=congrArg ih u.pl;obtain⟨v,M,U⟩:=Sj ⟨z.1,z.2⟩ f h d.ai a.an (min a.To p.au.aa0) ((d.dY+1)*d.dX) (L.pR c.n3 c.mq) c.BV (by show z.1.length<=4611686018427387904;omega);refine c8 (a:=Ft h d a (min a.To p.au.aa0) v.1 v.2) ?_ ?_
  .unfold uQ;refine(dL (LV c.OF c.OH)).trans ?_
   refine(dL M).trans rfl
  show Ok (bif c5 (v.2=0) then c7 (nJ ⟨dR p i v.1,j⟩ h d a (min a.To p.au.aa0)) else c7 (nJ ⟨dR p i f,j⟩ h d a (min a.To p.au.aa0))) _
  refine aV (λR=>ae ⟨i,v.1,rfl,?_⟩) (λ_=>ae ⟨i,f,rfl,A⟩)
  exact .Lu h a _ A B H Q u (U.resolve_right λc=>c.1 R).2
 by_cases y:q.2=0
 .refine c8 (a:=qI ⟨dR p q.1 f,j⟩) ?_ (C q.1 (.abs h a t B H (N.resolve_right λc=>c.1 y).2))
  show(bif c5 (q.2=0) then _ else _)=_
  rw[aC y]
  rfl
 .refine c8 (a:=qI ⟨dR p b f,j⟩) ?_ (C b t)
  show(bif c5 (q.2=0) then _ else _)=_
  rw[aG y]
def aa6{rs c:aS}{r:aT}{d:Nat}(f:tN n np p c){nm:List Int}{b k:aL}(l:fv p.ao p.aa2.af p.au.aa0 rs c r p.bZ (d:Int) p.bw p.bq b k){i:Int}(y:i∉r.aw)(u:p.au.aQ[d]?=c7 c)(w:∀c,c∈p.au.aQ->0<=c.cR/\c.cR<=60)(x:∀r,r∈p.bZ->Fit r.aw):Ok (Eb LC ⟨dR p b k,nm⟩ (d:Int) i) λo=>∃j g,o=mf ⟨dR p j g,nm⟩/\fv p.ao p.aa2.af p.au.aa0 rs c r p.bZ (d:Int) p.bw p.bq j g:=by
 unfold Eb;show Ok ((aj p.au.aQ (d:Int)).bind _) _
 rw[bn,u,aa];show Ok ((xp LC p.au.aQ (d:Int) i p.bZ).bind _) _
 refine aD (ag3 (rs:=p.au.aQ) (d:Int) i p.bZ w x) λq t=>?_
 have C:(bif c5 (q.2≠0) then c7 true else c7 (c5 ((q.1.length:Int)=0)):Option Bool)=c7 (c5 (q.2≠0\/(q.1.length:Int)=0)):=ew rfl;refine c8 C ?_
 refine aV (λ_=>ae ⟨b,k,rfl,l⟩) (λm=>?_)
 have D:q.2=0:=by by_cases f:q.2=0;exact f;exact absurd (.inl f) m
 have E:q.1.length≠0:=λf=>m (.inr (by omega))
 obtain⟨_,F,h,A⟩:=t.2 D;rw[e4,u] at h;injection h with h
 subst h;have G:=t.1;rw[aJ,show((q.1.length:Int) -1)=((q.1.length -1:Nat):Int) by omega,bn];have v:=c6 (show q.1.length -1<q.1.length by omega);have s:=dv (show q.1.length -1<q.1.length by omega);generalize q.1[q.1.length -1]=a at v s;rw[v,aa];refine c8 (a:=p.au.aa0) rfl ?_
 refine aV (λ_=>ae ⟨b,k,rfl,l⟩) (λ_=>?_)
 refine aD (afb f l y (A a s)) λo B=>?_
 obtain⟨j,g,rfl,z⟩:=B;exact ae ⟨j,g,rfl,z⟩
end
section
variable {n np:Nat}{p:aE}{e:bH}
def am8{h g:aS}{r:aT}{k:Nat}(v:tN n np p g)(c:List dS×Int)(y:c.1.length<=20)(w:∀a,a∈c.1->DS r h a):Ok (bO (λa:ug=>sC LC c (Q2 a) (Qd a) (R9 a)) (Cb ⟨p,[]⟩ g 0)) λo=>∃f d,o=mf ⟨dR p f d,[]⟩/\fv p.ao p.aa2.af p.au.aa0 h g r p.bZ (k:Int) p.bw p.bq f d:=by
 refine di c.1.length (λi a=>∃f d,a=Cb ⟨dR p f d,[]⟩ g (i:Int)/\fv p.ao p.aa2.af p.au.aa0 h g r p.bZ (k:Int) p.bw p.bq f d) _ (λi a q j=>?_) (λa j=>?_) _ ⟨p.bw,p.bq,rfl,.nil⟩
 .obtain⟨b,a,rfl,l⟩:=j;show Ok (sC LC c ⟨dR p b a,[]⟩ g (i:Int)) _
  unfold sC;have s:=c6 q;have m:=dv q;generalize c.1[i]=u at s m;rw[aC,bn,s,aa,aa];refine aD (aiU v l (w u m)) λo t=>?_
  obtain⟨f,d,rfl,x⟩:=t;rw[aJ];exact ae ⟨f,d,rfl,x⟩
 .obtain⟨b,a,rfl,l⟩:=j;show Ok (sC LC c ⟨dR p b a,[]⟩ g (c.1.length:Int)) _
  unfold sC;rw[aG];exact ae ⟨b,a,rfl,l⟩
def acB{l f:aS}{r:aT}{k:Nat}(G:tN n np p f)(j:List Int)(I:j.length<=1000){o s:aL}(z:fv p.ao p.aa2.af p.au.aa0 l f r p.bZ (k:Int) p.bw p.bq o s)(E:p.au.aQ[k]?=c7 f)(y:∀f,f∈p.au.aQ->0<=f.cR/\f.cR<=60)(A:∀r,r∈p.bZ->Fit r.aw)(D:Fit r.aw)(B:e.A=(k:Int)):Ok (bO (λg:uy=>uN LC j (r,0) e (Si g) (LF g)) (uZ ⟨dR p o s,[]⟩ 0)) λh=>∃c d,h=mf ⟨dR p c d,[]⟩/\fv p.ao p.aa2.af p.au.aa0 l f r p.bZ (k:Int) p.bw p.bq c d:=by
 refine di j.length (λi g=>∃c d,g=uZ ⟨dR p c d,[]⟩ (i:Int)/\fv p.ao p.aa2.af p.au.aa0 l f r p.bZ (k:Int) p.bw p.bq c d) _ (λi g F u=>?_) (λg u=>?_) _ ⟨o,s,rfl,z⟩
 .obtain⟨b,g,rfl,m⟩:=u;show Ok (uN LC j (r,0) e ⟨dR p b g,[]⟩ (i:Int)) _
  unfold uN;dsimp only;have x:=c6 F;generalize j[i]=H at x;rw[aC,bn,x,aa,contains_eq D,aa,de];have fin:∀c d,fv p.ao p.aa2.af p.au.aa0 l f r p.bZ (k:Int) p.bw p.bq c d->Ok (c7 (eo (uZ ⟨dR p c d,[]⟩ (c3 c4 ((i:Int)+1)))):Option (uy⊕rY)) λh=>match h with
   | .inl d=>∃c w,d=uZ ⟨dR p c w,[]⟩ ((i+1:Nat):Int)/\fv p.ao p.aa2.af p.au.aa0 l f r p.bZ (k:Int) p.bw p.bq c w
   | .inr h=>∃c d,h=mf ⟨dR p c d,[]⟩/\fv p.ao p.aa2.af p.au.aa0 l f r p.bZ (k:Int) p.bw p.bq c d:=λc d q=>by
   rw[aJ];exact ae ⟨c,d,rfl,q⟩
  by_cases v:H∈r.aw
  .rw[aC v,aa];exact alt (fin b g m) λh t=>by cases h <;> exact t
  .rw[aG v,B];obtain⟨h,C,c,d,rfl,q⟩:=aa6 (nm:=[]) G m v E y A;refine c8 (a:=mf ⟨dR p c d,[]⟩) ?_ ?_
   .exact(dL C).trans rfl
   .exact alt (fin c d q) λh t=>by cases h <;> exact t
 .obtain⟨b,g,rfl,m⟩:=u;show Ok (uN LC j (r,0) e ⟨dR p b g,[]⟩ (j.length:Int)) _
  unfold uN;rw[aG];exact ae ⟨b,g,rfl,m⟩
def aoV(a:dW n np p)(o:fw p.au)(S:e.abv=4):Ok (wP LC ⟨p,[]⟩ e) λu=>∃g O,u=dp g O/\gi p e g O:=by
 have s:=a.lC;have U:=a.n3;have al:=a.kn;have aq:=a.jR;have av:p.au.cn.length=p.au.aQ.length:=o.2.2.2.2.2.1;unfold wP;dsimp only;rw[aJ,cF,aa,de];refine aV (λao=>?_) (λ_=>ae ⟨_,_,rfl,.same a (by decide)⟩)
 obtain⟨k,A⟩:∃k:Nat,e.A=(k:Int):=⟨e.A.toNat,by omega⟩;have G:k<p.cq.length:=by omega
 rw[A,bn,bn,e4];have y:=c6 (show k<p.au.cn.length by omega);generalize p.au.cn[k]=num at y;have v:=c6 G;have E:=dv G;generalize p.cq[k]=r at v E;have t:=c6 (show k<p.au.aQ.length by omega);have M:=dv (show k<p.au.aQ.length by omega);generalize p.au.aQ[k]=b at t M;have au:=a.rX r E;have h:Fit r.aw:=by show _<=4611686018427387904;omega
 rw[y,aa];refine aV (λ_=>ae ⟨_,_,rfl,.same a (by decide)⟩) (λaw=>?_)
 rw[v,aa,aa,WJ h]
 by_cases m:kb r
 rotate_left
 .rw[if_neg m,aa];exact ae ⟨_,_,rfl,.same a (by decide)⟩
 rw[if_pos m,aa,aG (by simp)];rw[anb m,aa,aG (by simp)];dsimp only;obtain⟨j,V,H⟩:=abN (x:=p.cW) (r:=r) s.il s.io h;rw[V,aa];refine aV (λd=>ae ⟨_,_,rfl,.bad a d rfl⟩) (λd=>?_)
 have ai:=a.uB;rw[dm (by decide) (by omega),aa];have ah:(p.bZ++[r]).length=p.bZ.length+1:=by simp
 rw[aJ,l8 (by omega) (by omega) (by omega),aa];generalize ax:max 0 (((p.bZ++[r]).length:Int) -60)=i;have ad:((p.bZ++[r]).drop i.toNat).take ((((p.bZ++[r]).length:Int)).toNat -i.toNat)=(p.bZ++[r]).drop i.toNat:=List.take_of_length_le (by rw[hD];omega);rw[ad];have F:∀b,b∈p.au.aQ->0<=b.cR/\b.cR<=60:=λb ab=>(o.1.2.2 b ab).2.2.2.2
 obtain⟨u,Y,K⟩:=Xo (l:=p.au.aQ) (r:=r) h F;rw[Y,aa];refine aV (λd=>ae ⟨_,_,rfl,.bad a d rfl⟩) (λd=>?_)
 obtain⟨_,W,T,X⟩:=K.2 (Decidable.not_not.1 d);rw[bn,t,aa];have D:=o.1.2.2 b M;have am:=o.1.1.1;have J:tN n np ({p with bZ:=(p.bZ++[r]).drop i.toNat,cW:=j.1}:aE) b:=⟨U.2,a.mq,a.gq,a.gk,a.jY,by have:=a.key.1.1;show p.aa2.af.length<=12;omega,a.hZ,a.bne,a.je,by have:=D.2.1.len (by omega);show b.ai.length<=4611686018427387904;omega,D.2.2.2.1,D.2.2.1⟩;refine aD (am8 (k:=k) J u K.1 X) λz w=>?_
 obtain⟨f,ar,rfl,Q⟩:=w;obtain⟨⟨ag,B⟩,ak,ap⟩:=Q.shape a.gk a.hZ a.bne a.je;have N:f.aA[0]?=c7 (f.aA[0]'(ez.2 B)):=c6 _;have P:=dv (ez.2 B);generalize f.aA[0]'(ez.2 B)=C at N P;have an:=(ag.mX C P).2;show Ok ((aj f.aA 0).bind λaf=>(cc LC af.aw).bind _) _
 rw[show aj f.aA 0=c7 C from N,aa,bV (cX (n:=3) (by omega) (by decide)),aa];refine aD (acB (k:=k) J C.aw (by omega) Q t F (λq c=>?_) h A) λz w=>?_
 .have:q∈p.bZ++[r]:=gy c;rcases ea.1 this with c |c
  .have:=a.rW q c;show _<=4611686018427387904;omega
  .rw[dT] at c;rw[c];exact h
 obtain⟨L,I,rfl,Z⟩:=w;have ac:=s.il;have R:=s.io;refine ae ⟨⟨{p with bZ:=(p.bZ++[r]).drop i.toNat,cW:=j.1,bw:=L,bq:=I},[]⟩,0,rfl,.lP rfl (.JE k W b r num _ j.1 L I S A y (by omega) v m t T ⟨_,rfl⟩ ?_ ⟨?_,?_⟩ Z)⟩
 .rw[hD];omega
 .show j.1.dl.length<=_;rw[H.1];exact ac
 .show j.1.dr.length<=_;rw[H.2.1];exact R
def oP.mD{x:aB}{a:Int}{o:aE}(h:dW n np p)(E:ny x)(w:x.ao=cY p.ao a)(G:x.aN.length=n)(u:x.aQ=p.au.aQ)(F:x.bp.length=x.aQ.length)(A:oP {p with au:=x} a o):dW n np o:=by
 obtain⟨b,s,fl,sm,y,rfl,j,_,B,l,d,c⟩:=A.ex;have t:=uF p.ao a;have C:fM n np b:=h.hZ.renew (m:=cY p.ao a) h.gk l;refine {n3:=h.n3,kN:=E,fN:=w,gq:=B,gk:=h.gk,iz:=G,jR:=by show x.aQ.length<=3;rw[u];exact h.jR,kj:=F,uD:=?_,kI:=h.kI,qx:=h.qx,kn:=by show p.cq.length=x.aQ.length;rw[u];exact h.kn,rX:=h.rX,uB:=h.uB,rW:=h.rW,int:=h.int,hZ:=C,bne:=?_,je:=?_,pq:=?_,key:=h.key,jY:=?_,iI:=h.iI,log:=h.log,uC:=h.uC}
 .show fl.length=(cY p.ao a).af.length
  rw[t];have j:fl.length=p.cI.length:=j;rw[j];exact h.uD
 .show b.aA≠[]
  intro D;have:=l.1;rw[D] at this;exact h.bne (ee.1 this.symm)
 .rcases d with⟨_,d⟩ |⟨_,d,c⟩
  .show fM n np s
   rw[d];exact h.je
  .exact h.je.renew (m:=y) (by rw[d.pl];exact h.gk) c
 .rcases c with⟨c,k⟩ |⟨_,k⟩
  .show sm.an=[]\/sm.an.length=np
   rw[k];exact .inl c
  .exact .inr (by show sm.an.length=np;rw[k];exact h.gk)
 .show cj 0 (((cY p.ao a).af.length:Int) -1) p.aa2.af
  rw[t];exact h.jY
def gC.mD{G:aE}(h:dW n np p)(B:gC p e G):dW n np G:=by
 have ht:=h.kN;cases B with
 |wait _ _ _ _=>exact {h with kN:={ht with pe:=by show(p.au.aN.map _).length<=_;rw[e6];exact ht.pe},fN:=h.fN,iz:=by show(p.au.aN.map _).length=n;rw[e6];exact h.iz,jR:=h.jR,kj:=h.kj,kn:=h.kn}
 |walk w _ _ _ _ _ _ _ _=>exact {h with kN:={ht with pe:=by show(p.au.aN.set _ _).length<=_;rw[e0];exact ht.pe},fN:=h.fN,iz:=by show(p.au.aN.set _ _).length=n;rw[e0];exact h.iz,jR:=h.jR,kj:=h.kj,kn:=h.kn}
 |look k rd V r _ _ o=>
  obtain⟨row,aa,yp,a,u,l,m,E,j,A,C,Z,M,t⟩:=o.ex;rw[t];have H:=ht.mr row (fC l);refine {h with kN:={ht with nu:=by show(p.au.cn.set _ _).length<=_;rw[e0];exact ht.nu,lo:=by show(p.au.cf.set _ _).length<=_;rw[e0];exact ht.lo,mi:=by show(p.au.bp.set _ _).length<=_;rw[e0];exact ht.mi,mr:=λq c=>?_},fN:=h.fN,iz:=h.iz,jR:=h.jR,kj:=by show(p.au.bp.set _ _).length=_;rw[e0];exact h.kj,kn:=by show(p.cq.set _ _).length=_;rw[e0];exact h.kn,rX:=λq c=>?_}
  .rcases ei c with c |rfl
   .exact ht.mr q c
   .show _<=_;rw[j.len];exact H
  .rcases ei c with c |rfl
   .exact h.rX q c
   .rw[M,uP];have:=j.tl;have:=h.iz;have:=h.n3;omega
 |JE k rs rd r num B x b s _ _ _ _ W K _ _ P I t T=>
  obtain⟨⟨S,N⟩,J,Y⟩:=T.shape h.gk h.hZ h.bne h.je;refine {h with uB:=I,rW:=λq c=>?_,int:=t,hZ:=S,bne:=N,je:=J}
  obtain⟨d,rfl⟩:=P;rcases ea.1 (gy c) with c |c
  .exact h.rW q c
  .rw[dT] at c;have:=K.2.2.2.1;rw[c];omega
 |swap x b s w U _ _ _ _ _ _ _ _ t y j=>
  rw[t];have F:=h.iz;have D:=h.gk;rw[F,D] at y;have sl:∀{u:List Int},(gL e.A e.B u).length=u.length:=by
   intro u;unfold gL
   split
   .rw[e0,e0]
   .rfl
  refine {h with kN:={ht with tg:=by show(gL _ _ _).length<=_;rw[sl];exact ht.tg,mi:=by show(p.au.bp.map _).length<=_;rw[e6];exact ht.mi,mr:=λq c=>?_},fN:=h.fN,iz:=h.iz,jR:=h.jR,kj:=by show(p.au.bp.map _).length=_;rw[e6];exact h.kj,kn:=h.kn,hZ:=h.hZ.Np y,bne:=?_,je:=?_}
  .obtain⟨Q,O,rfl⟩:=j3.1 c;show _<=_;rw[sl];exact ht.mr Q O
  .obtain⟨u,l,m,_⟩:=y.ex;exact l.e m
  .rcases j with⟨_,j⟩ |⟨X,_,_,j⟩
   .show fM n np s;rw[j];exact h.je
   .rw[F,D] at j;exact h.je.Np j
 |JD sm al _ j R _=>exact {h with pq:=.inr (by rw[j];exact h.gk),iI:=R.1}
 |guard k _ l m E _ A _ _=>exact {h with key:=A,jY:=by show cj 0 _ k.af;rw[l];exact h.jY}
 |shut k s _ l m E A _ C _ _ j=>
  rw[h.iz,h.gk] at j;exact {h with key:=C,jY:=by show cj 0 _ k.af;rw[l];exact h.jY,je:=h.hZ.shut j}
 |xX st _ _ _=>exact {h with}
 |xZ _ _ L _ _ o=>exact oP.mD (x:={p.au with ao:=cY p.au.ao e.A,aN:=p.au.aN.map (n8 e.A)}) (a:=e.A) h {ht with rd:=by show(cY p.au.ao e.A).af.length<=_;rw[uF];exact ht.rd,pe:=by show(p.au.aN.map _).length<=_;rw[e6];exact ht.pe} (by show cY p.au.ao e.A=_;rw[h.fN]) (by show(p.au.aN.map _).length=n;rw[e6];exact h.iz) rfl h.kj o
 |xY _ al q _ _ _ L _ _ o=>exact oP.mD (x:={p.au with ao:=cY p.au.ao e.A,aN:=p.au.aN.map (n8 e.A)}) (a:=e.A) h {ht with rd:=by show(cY p.au.ao e.A).af.length<=_;rw[uF];exact ht.rd,pe:=by show(p.au.aN.map _).length<=_;rw[e6];exact ht.pe} (by show cY p.au.ao e.A=_;rw[h.fN]) (by show(p.au.aN.map _).length=n;rw[e6];exact h.iz) rfl h.kj o
 |JF k st _ l m _ _ _=>exact {h with key:=m,jY:=by show cj 0 _ k.af;rw[l];exact h.jY,je:=.nil}
end
def gC.log{p c:aE}{e:bH}(h:gC p e c):c.bB=p.bB:=by
 cases h with
 |xZ _ _ _ _ _ a=>obtain⟨b,s,fl,sm,d,rfl,_⟩:=a.ex;rfl
 |xY _ _ _ _ _ _ _ _ _ a=>obtain⟨b,s,fl,sm,d,rfl,_⟩:=a.ex;rfl
 |_=>rfl
inductive oA (p:aE) (e:bH):aE->Int->Prop
 |no (c:Int):c=2\/c=6->oA p e p c
 |bad (al:List cy) (nm:List Int) (c:Int):c≠0->gj p.bS al->nm.length<=768->p.bB.length<200->fw p.au->oA p e {p with bS:=al,bB:=p.bB++[⟨e,p.au.aa0,c,nm⟩]} c
 |zI (q:aE) (nm:List Int):gC p e q->nm.length<=768->p.bB.length<200->fw p.au->oA p e {q with bB:=p.bB++[⟨e,p.au.aa0,0,nm⟩]} 0
def acG{a:Int}(b:1<=a/\a<=13):lK a=c7 (102+a.toNat):=by
 unfold lK;rw[aC b.1,aC b.2]
def akh{a:Int}(c:¬(1<=a/\a<=13)):lK a=ie:=by
 unfold lK
 by_cases b:1<=a
 .rw[aC b,aG (λd=>c ⟨b,d⟩)]
 .rw[aG b]
def J6(p:aE)(a:bH):Prop:=a.abv=3->0<=a.A/\a.A<max 1 (p.au.aQ.length:Int)
def Wq{A y:Nat}{p:aE}{e:bH}(j:dW A y p)(w:J6 p e):Ok (w7 LC p e) λr=>oA p e r.1 r.2:=by
 have x:=j.lC;unfold w7;refine aV (λ_=>ae (.no 2 (.inl rfl))) (λD=>?_)
 obtain⟨v,z,B⟩:=U4 j;rw[z,aa];cases v with
 |false=>exact ae (.no 6 (.inr rfl))
 |true=>
  have m:=B rfl;rw[e5,cond_false,aiT x,aa];dsimp only;rw[show SD (IW p)=p from rfl];refine c8 (a:=lK e.abv) rfl ?_
  have k:∀{q:Option qz},Ok q (λb=>∃g c,b=dp g c/\gi p e g c)->Ok (q.bind λb=>c7 (dp (iS b) (iJ b))) λb=>∃g c,b=dp g c/\gi p e g c:=λ{q} j=>aD j λb i=>by
   obtain⟨g,c,rfl,f⟩:=i;exact ae ⟨g,c,rfl,f⟩
  refine aD (Q:=λb:qz=>∃g c,b=dp g c/\gi p e g c) ?_ λb i=>?_
  .by_cases h:1<=e.abv/\e.abv<=13
   rotate_left
   .rw[akh h];exact ae ⟨⟨p,[]⟩,55,rfl,.same j (by decide)⟩
   rw[acG h];have:e.abv=1\/e.abv=2\/e.abv=3\/e.abv=4\/e.abv=5\/e.abv=6\/e.abv=7\/e.abv=8\/e.abv=9\/e.abv=10\/e.abv=11\/e.abv=12\/e.abv=13:=by omega
   rcases this with h |h |h |h |h |h |h |h |h |h |h |h |h <;> rw[h]
   .show Ok (((xR LC (aR.mk p ([]:List Int)) e).bind λd=>c7 (dp (fR d) (fT d))).bind λb=>c7 (dp (iS b) (iJ b))) _
    exact k (aD (Wo j h) λb i=>by obtain⟨g,c,rfl,f⟩:=i;exact ae ⟨g,c,rfl,f⟩)
   .show Ok (((yV LC (aR.mk p ([]:List Int)) e).bind λd=>c7 (dp (fR d) (fT d))).bind λb=>c7 (dp (iS b) (iJ b))) _
    exact k (aD (aku j h) λb i=>by obtain⟨g,c,rfl,f⟩:=i;exact ae ⟨g,c,rfl,f⟩)
   .show Ok (((yT LC (aR.mk p ([]:List Int)) e).bind λd=>c7 (dp (fR d) (fT d))).bind λb=>c7 (dp (iS b) (iJ b))) _
    exact k (aD (anv j h (w h).1 (w h).2) λb i=>by obtain⟨g,c,rfl,f⟩:=i;exact ae ⟨g,c,rfl,f⟩)
   .show Ok (((wP LC (aR.mk p ([]:List Int)) e).bind λd=>c7 (dp (iS d) (iJ d))).bind λb=>c7 (dp (iS b) (iJ b))) _
    exact k (aD (aoV j m h) λb i=>by obtain⟨g,c,rfl,f⟩:=i;exact ae ⟨g,c,rfl,f⟩)
   .show Ok (((yb LC (aR.mk p ([]:List Int)) e).bind λd=>c7 (dp (fR d) (fT d))).bind λb=>c7 (dp (iS b) (iJ b))) _
    exact k (aD (amp j h) λb i=>by obtain⟨g,c,rfl,f⟩:=i;exact ae ⟨g,c,rfl,f⟩)
   .show Ok (((xy LC (aR.mk p ([]:List Int)) e).bind λd=>c7 (dp (fR d) (fT d))).bind λb=>c7 (dp (iS b) (iJ b))) _
    exact k (aD (aiX j h) λb i=>by obtain⟨g,c,rfl,f⟩:=i;exact ae ⟨g,c,rfl,f⟩)
   .show Ok (((vA LC (aR.mk p ([]:List Int)) e).bind λd=>c7 (dp (fR d) (fT d))).bind λb=>c7 (dp (iS b) (iJ b))) _
    exact k (aD (anG j h) λb i=>by obtain⟨g,c,rfl,f⟩:=i;exact ae ⟨g,c,rfl,f⟩)
   .show Ok (((vm LC (aR.mk p ([]:List Int)) e).bind λd=>c7 (dp (fR d) (fT d))).bind λb=>c7 (dp (iS b) (iJ b))) _
    exact k (aD (Zi j h) λb i=>by obtain⟨g,c,rfl,f⟩:=i;exact ae ⟨g,c,rfl,f⟩)
   .show Ok (((wR LC (aR.mk p ([]:List Int)) e).bind λd=>c7 (dp (fR d) (fT d))).bind λb=>c7 (dp (iS b) (iJ b))) _
    exact k (aD (amE j h) λb i=>by obtain⟨g,c,rfl,f⟩:=i;exact ae ⟨g,c,rfl,f⟩)
   .show Ok (((yu LC (aR.mk p ([]:List Int)) e).bind λd=>c7 (dp (fR d) (fT d))).bind λb=>c7 (dp (iS b) (iJ b))) _
    exact k (aD (aeC j h) λb i=>by obtain⟨g,c,rfl,f⟩:=i;exact ae ⟨g,c,rfl,f⟩)
   .show Ok (((tM LC (aR.mk p ([]:List Int)) e).bind λd=>c7 (dp (fR d) (fT d))).bind λb=>c7 (dp (iS b) (iJ b))) _
    exact k (aD (agT j h) λb i=>by obtain⟨g,c,rfl,f⟩:=i;exact ae ⟨g,c,rfl,f⟩)
   .show Ok (((xQ LC (aR.mk p ([]:List Int)) e).bind λd=>c7 (dp (fR d) (fT d))).bind λb=>c7 (dp (iS b) (iJ b))) _
    exact k (aD (af5 j m h) λb i=>by obtain⟨g,c,rfl,f⟩:=i;exact ae ⟨g,c,rfl,f⟩)
   .show Ok (((xE LC (aR.mk p ([]:List Int)) e).bind λd=>c7 (dp (fR d) (fT d))).bind λb=>c7 (dp (iS b) (iJ b))) _
    exact k (aD (YJ j h) λb i=>by obtain⟨g,c,rfl,f⟩:=i;exact ae ⟨g,c,rfl,f⟩)
  .obtain⟨g,c,rfl,f⟩:=i;rw[show iS (dp g c)=g from rfl,show iJ (dp g c)=c from rfl];have t:p.bB.length<200:=by omega
   by_cases l:c=0
   .rw[aG (by rw[l];simp),aa];show Ok ((bj 72 g.aI.bB ([(dK.mk e p.au.aa0 c g.named)]:List dK)).bind λo=>c7 (({g.aI with bB:=o}:aE),c)) _
    have s:=f.ok l;rw[s.log,dm (by decide) (by omega),aa,l];exact ae (.zI g.aI g.named s f.nm t m)
   .rw[aC l,abE x,aa];have fin:∀n,gj p.bS n->Ok ((bj 72 p.bB ([(dK.mk e p.au.aa0 c g.named)]:List dK)).bind λo=>c7 (({p with bS:=n,bB:=o}:aE),c)) λr=>oA p e r.1 r.2:=λn C=>by
     rw[dm (by decide) (by omega),aa];exact ae (.bad n g.named c l C f.nm t m)
    by_cases u:c=46
    .refine c8 (a:=lR {p with bS:=g.aI.bS}) ?_ (fin _ (f.iI l))
     rw[aC u,aa]
     rfl
    .refine c8 (a:=lR p) ?_ (fin p.bS (gj.refl j.iI))
     rw[aG u,aa]
     rfl
def oA.mD{n np:Nat}{p l:aE}{e:bH}{c:Int}(h:dW n np p)(w:oA p e l c):dW n np l:=by
 have lg:∀{q:aE} {x:dK},dW n np q->p.bB.length<200->x.ll.length<=768->dW n np {q with bB:=p.bB++[x]}:=by
  intro q x o y s;have a1:(p.bB++[x]).length<=200:=by rw[ft];simp;omega
  have t:∀d,d∈p.bB++[x]->d.ll.length<=768:=by
   intro d a;rcases ea.1 a with a |a
   .exact h.uC d a
   .rw[dT] at a;rw[a];exact s
  exact {o with log:=a1,uC:=t}
 cases w with
 |no c _=>exact h
 |bad al nm c _ u k j _=>exact lg (q:={p with bS:=al}) {h with iI:=u.1} j k
 |zI q nm m k j _=>exact lg (m.mD h) j k
def DI(l:List Int)(b:List Int)(a:Int):Prop:=b=l/\0<=a/\a<=400
def DI.init{l:List Int}:DI l l 0:=⟨rfl,dd _,by decide⟩
section
variable {l:List Int}
def lW(m:l.length<=400){d:bD}(e:DI l d.L d.At)(n:Int)(p:n<=1000000):Ok (eO LC d n) λr=>DI l r.1 r.2.1/\0<=r.2.2/\(r.2.2<n\/r.2.2=0):=by
 obtain⟨c,b,h⟩:=e;unfold eO;refine aV (λ_=>ae ⟨⟨c,b,h⟩,dd _,.inr rfl⟩) (λi=>?_)
 rw[c] at i⊢;rw[aJ (n:=d.At+1),show d.At+1 -1=d.At by omega,aJ,jF 0 b (by omega),aa];generalize l.getD d.At.toNat 0=a;refine aD (Q:=λr:Int=>0<=r/\(r<n\/r=0)) ?_ λr g=>ae ⟨⟨rfl,by dsimp only;omega,by dsimp only;omega⟩,g⟩
 unfold Ie;refine aV (λ_=>ae ⟨dd _,.inr rfl⟩) (λo=>?_)
 rw[D7 (by omega),aa];have f:=hM a (show 0<n by omega);have k:=hP a (show 0<n by omega);refine aV (λj=>?_) (λj=>ae ⟨by omega,.inl f⟩)
 rw[aJ];exact ae ⟨by omega,.inl (by omega)⟩
def ir(e:l.length<=400){d:bD}(c:DI l d.L d.At)(a:Int)(g:1<=a)(f:a<=1000000):Ok (eO LC d a) λr=>DI l r.1 r.2.1/\0<=r.2.2/\r.2.2<a:=alt (lW e c a f) λr b=>⟨b.1,b.2.1,by have:=b.2.2;omega⟩
def p9(c:l.length<=400){d:bD}(b:DI l d.L d.At)(a:Int)(f:a<=1000000):Ok (mK LC d a) λr=>DI l r.1 r.2.1:=by
 unfold mK;exact aD (lW c b a f) λr e=>ae e.1
def iM(g:l.length<=400){d:bD}(f:DI l d.L d.At)(vs:List Int)(h:1<=vs.length)(i:vs.length<=1000):Ok (gQ LC d vs) λr=>DI l r.1 r.2.1/\r.2.2∈vs:=by
 unfold gQ;refine aD (ir g f (vs.length:Int) (by omega) (by omega)) λr b=>?_
 have c:vs[r.2.2.toNat]?=c7 (vs[r.2.2.toNat]'(by omega)):=c6 _;have a:vs[r.2.2.toNat]'(by omega)∈vs:=dv _;generalize vs[r.2.2.toNat]'(by omega)=e at c a;rw[show aj vs r.2.2=c7 e by unfold aj;rw[if_pos b.2.1];exact c,aa];exact ae ⟨b.1,a⟩
def adN(u:l.length<=400)(m:Nat)(C:m<=7){s:List Int}{k:Int}(A:DI l s k):Ok (bO (λa:List Int×Int×List bP×List aZ×Int=>Bt LC (m:Int) (bD.mk a.1 a.2.1) (ak.mk a.2.2.1 a.2.2.2.1) a.2.2.2.2) (s,k,[],[],0)) λc=>DI l c.1 c.2.1/\c.2.2.1.length=m/\(∀p,p∈c.2.2.1->-100<=p.eU/\p.eU<=0)/\c.2.2.2=[]:=by
 refine di m (λi a=>a.2.2.2.2=(i:Int)/\DI l a.1 a.2.1/\a.2.2.1.length=i/\(∀p,p∈a.2.2.1->-100<=p.eU/\p.eU<=0)/\a.2.2.2.1=[]) _ (λi a B n=>?_) (λa n=>?_) _ ⟨rfl,A,rfl,(λp e=>by cases e),rfl⟩
 .obtain⟨b,k,t,z,x⟩:=a;obtain⟨rfl,h,f,j,g⟩:=n;dsimp only at h f j g⊢;unfold Bt
  try dsimp only
  rw[aC];refine aD (Q:=λc:List Int×Int×List bP=>DI l c.1 c.2.1/\c.2.2.length=i+1/\∀p,p∈c.2.2->-100<=p.eU/\p.eU<=0) ?_ λc o=>?_
  .refine aD (ir u h 4 (by decide) (by decide)) λr w=>?_
   have v:∀b:Bool,∀p,p∈t++[bP.mk (c3 c4 ((-10)*r.2.2)) b]->-100<=p.eU/\p.eU<=0:=λb p e=>by
    rcases ea.1 e with e |e
    .exact j p e
    .rw[dT] at e;rw[e,aJ];dsimp only;omega
   refine aV (λ_=>?_) (λ_=>?_)
   .rw[dm (by decide) (by omega),aa];exact ae ⟨w.1,by simp[f],v _⟩
   .refine aD (p9 u (d:=⟨r.1,r.2.1⟩) w.1 6 (by decide)) λq y=>?_
    rw[dm (by decide) (by omega),aa];exact ae ⟨y,by simp[f],v _⟩
  .rw[aJ];exact ae ⟨rfl,o.1,o.2.1,o.2.2,g⟩
 .obtain⟨b,k,t,z,x⟩:=a;obtain⟨rfl,h,f,j,g⟩:=n;dsimp only at h f j g⊢;unfold Bt
  try dsimp only
  rw[aG];exact ae ⟨h,f,j,g⟩
def Mv{c:Nat}{d:List aZ}{r:aZ}(e:∀r,r∈d->jx c r)(f:jx c r):∀b,b∈d++[r]->jx c b:=λb a=>by
 rcases ea.1 a with a |a
 .exact e b a
 .rw[dT] at a;rw[a];exact f
def adQ(m:l.length<=400)(n:Nat)(D:2<=n/\n<=7){s:List Int}{j:Int}{ps:List bP}(z:DI l s j):Ok (bO (λa:List Int×Int×List bP×List aZ×Int=>By LC (n:Int) (bD.mk a.1 a.2.1) (ak.mk a.2.2.1 a.2.2.2.1) a.2.2.2.2) (s,j,ps,[],1)) λe=>DI l e.1 e.2.1/\e.2.2.1=ps/\e.2.2.2.length=n -1/\∀r,r∈e.2.2.2->jx n r:=by
 refine di (n -1) (λi a=>a.2.2.2.2=((i+1:Nat):Int)/\DI l a.1 a.2.1/\a.2.2.1=ps/\a.2.2.2.1.length=i/\∀r,r∈a.2.2.2.1->jx n r) _ (λi a C k=>?_) (λa k=>?_) _ ⟨rfl,z,rfl,rfl,λp v=>by cases v⟩
 .obtain⟨b,j,y,w,u⟩:=a;obtain⟨rfl,g,rfl,h,f⟩:=k;dsimp only at g h f⊢;unfold By
  try dsimp only
  rw[aC];refine aD (ir m g (min ((i+1:Nat):Int) 2) (by omega) (by omega)) λr x=>?_
  refine aD (iM m (d:=⟨r.1,r.2.1⟩) x.1 [11,59,119,4] (by decide) (by decide)) λc t=>?_
  refine aD (iM m (d:=⟨c.1,c.2.1⟩) t.1 [9,3,19] (by decide) (by decide)) λo q=>?_
  have A:4<=c.2.2/\c.2.2<=119:=by have:=t.2;simp at this;omega
  have B:3<=o.2.2/\o.2.2<=19:=by have:=q.2;simp at this;omega
  rw[dm (by decide) (by omega),aa,aJ (n:=((i+1:Nat):Int) -1) (by omega) (by omega),aJ (n:=((i+1:Nat):Int) -1 -r.2.2) (by omega) (by omega),aJ (n:=1+c.2.2),aJ (n:=1+o.2.2),aJ];refine ae ⟨by dsimp only;omega,q.1,rfl,by simp[h],Mv f ⟨?_,?_,?_,?_⟩⟩
  .dsimp only;omega
  .dsimp only;omega
  .dsimp only;omega
  .dsimp only;omega
 .obtain⟨b,j,y,w,u⟩:=a;obtain⟨rfl,g,rfl,h,f⟩:=k;dsimp only at g h f⊢;unfold By
  try dsimp only
  rw[aG];exact ae ⟨g,rfl,h,f⟩
def Wc(e:l.length<=400)(n:Nat)(K:2<=n/\n<=7){t:List Int}{k:Int}{ps:List bP}{rs:List aZ}{h:Int}(E:DI l t k)(F:0<=h/\h<=1000)(o:1<=rs.length/\rs.length<=10)(y:∀r,r∈rs->jx n r):Ok (bO (λa:List Int×Int×List bP×List aZ×Int=>HR LC (n:Int) (bD.mk a.1 a.2.1) (ak.mk a.2.2.1 a.2.2.2.1) a.2.2.2.2) (t,k,ps,rs,h)) λc=>DI l c.1 c.2.1/\c.2.2.1=ps/\(1<=c.2.2.2.length/\c.2.2.2.length<=10)/\∀r,r∈c.2.2.2->jx n r:=by
 refine oa (λa=>(0<=a.2.2.2.2/\a.2.2.2.2<=h)/\DI l a.1 a.2.1/\a.2.2.1=ps/\(1<=a.2.2.2.1.length/\a.2.2.2.1.length<=10)/\∀r,r∈a.2.2.2.1->jx n r) (λa=>a.2.2.2.2.toNat) _ (λa z=>?_) _ ⟨⟨F.1,dd _⟩,E,rfl,o,y⟩
 obtain⟨b,k,B,rs,i⟩:=a;obtain⟨h0,m,rfl,p,j⟩:=z;dsimp only at h0 m p j⊢;unfold HR
 try dsimp only
 have D:(bif c5 (0<i) then c7 (c5 ((rs.length:Int)<10)) else c7 false)=c7 (c5 (0<i/\(rs.length:Int)<10)):=fm rfl;refine c8 D ?_
 refine aV (λL=>?_) (λ_=>ae ⟨m,rfl,p,j⟩)
 refine aD (ir e m (n:Int) (by omega) (by omega)) λr o=>?_
 refine aD (ir e (d:=⟨r.1,r.2.1⟩) o.1 (n:Int) (by omega) (by omega)) λu A=>?_
 refine aD (iM e (d:=⟨u.1,u.2.1⟩) A.1 [11,59,199] (by decide) (by decide)) λf w=>?_
 refine aD (iM e (d:=⟨f.1,f.2.1⟩) w.1 [9,3] (by decide) (by decide)) λg s=>?_
 refine aD (ir e (d:=⟨g.1,g.2.1⟩) s.1 5 (by decide) (by decide)) λq C=>?_
 refine aD (p9 e (d:=⟨q.1,q.2.1⟩) C.1 6 (by decide)) λI x=>?_
 have G:11<=f.2.2/\f.2.2<=199:=by have:=w.2;simp at this;omega
 have J:3<=g.2.2/\g.2.2<=9:=by have:=s.2;simp at this;omega
 refine aD (Q:=λc:List bP×List aZ=>c.1=B/\(1<=c.2.length/\c.2.length<=10)/\∀r,r∈c.2->jx n r) ?_ λc v=>?_
 .refine aV (λH=>?_) (λ_=>ae ⟨rfl,p,j⟩)
  rw[dm (by decide) (by omega),aa,aJ (n:=1+f.2.2),aJ (n:=1+g.2.2)];refine ae ⟨rfl,by simp;omega,Mv j ⟨?_,?_,?_,?_⟩⟩
  .dsimp only;omega
  .dsimp only;omega
  .dsimp only;omega
  .dsimp only;omega
 .rw[aJ];exact ae ⟨⟨by dsimp only;omega,x,v.1,v.2⟩,by dsimp only;omega⟩
structure CJ (m:ak):Prop where
 ok:cP m
 np:2<=m.ai.length/\m.ai.length<=7
 nr:1<=m.af.length/\m.af.length<=10
def amM(e:l.length<=400)(u:DI l l 0):Ok (zN LC ⟨l,0⟩) λr=>DI l r.1 r.2.1/\CJ r.2.2:=by
 unfold zN;refine aD (ir e (d:=⟨l,0⟩) u 6 (by decide) (by decide)) λr s=>?_
 refine aD (Q:=λc:Int=>2<=c/\c<=7) ?_ λc x=>?_
 .refine aV (λ_=>ae (by decide)) (λ_=>?_)
  rw[aJ];exact ae (by omega)
 obtain⟨b,rfl⟩:∃b:Nat,c=(b:Int):=⟨c.toNat,by omega⟩;refine aD (adN e b (by omega) s.1) λk h=>?_
 have o:k.2.2.2=[]:=h.2.2.2;rw[o];refine aD (adQ e b (by omega) (ps:=k.2.2.1) h.1) λi g=>?_
 refine aD (ir e (d:=⟨i.1,i.2.1⟩) g.1 4 (by decide) (by decide)) λw t=>?_
 refine aD (Wc e b (by omega) (ps:=i.2.2.1) (rs:=i.2.2.2) t.1 (by omega) (by have:=g.2.2.1;omega) g.2.2.2) λa f=>?_
 have m:a.2.2.1=k.2.2.1:=f.2.1.trans g.2.1;have v:a.2.2.1.length=b:=by rw[m];exact h.2.1
 refine ae ⟨f.1,⟨by show a.2.2.1.length<=64;omega,by show a.2.2.2.length<=128;have:=f.2.2.1;omega,λp j=>?_,λq n=>?_⟩,by show 2<=a.2.2.1.length/\a.2.2.1.length<=7;omega,f.2.2.1⟩
 .have j:p∈a.2.2.1:=j;rw[m] at j;have:=h.2.2.1 p j;omega
 .show jx a.2.2.1.length q
  rw[v];exact f.2.2.2 q n
def apv(v:l.length<=400)(h:Nat)(B:h<=64){d:bD}(x:DI l d.L d.At):Ok (A9 LC d (h:Int)) λr=>DI l r.1 r.2.1/\cj 0 ((h:Int) -1) r.2.2:=by
 unfold A9;refine aD (Q:=λe:List Int×Int×List Int=>DI l e.1 e.2.1/\cj 0 ((h:Int) -1) e.2.2) ?_ λe n=>ae n
 refine di h (λi c=>c.2.2.2=(i:Int)/\DI l c.1 c.2.1/\c.2.2.1.length<=i/\cj 0 ((i:Int) -1) c.2.2.1) _ (λi c A o=>?_) (λc o=>?_) _ ⟨rfl,x,gx _,cj.nil⟩
 .obtain⟨b,s,a,u⟩:=c;obtain⟨rfl,g,j,f⟩:=o;dsimp only at g j f⊢;unfold HH
  try dsimp only
  rw[aC];refine aD (ir v (d:=⟨b,s⟩) g 3 (by decide) (by decide)) λr w=>?_
  refine aD (Q:=λe:List Int=>e.length<=i+1/\cj 0 (((i+1:Nat):Int) -1) e) ?_ λe n=>?_
  .refine aV (λ_=>?_) (λ_=>ae ⟨by omega,λq k=>?_⟩)
   .rw[dm (by decide) (by omega),aa];refine ae ⟨by simp;omega,λq k=>?_⟩
    simp only[ft,hI] at k
    by_cases t:q<a.length
    .have:=f q t;have p:(a++[(i:Int)]).getD q 0=a.getD q 0:=by rw[dk,ec t,dk]
     have m:(a++[(i:Int)]).getD (q -1) 0=a.getD (q -1) 0:=by rw[dk,ec (by omega),dk]
     rw[p,m];exact⟨this.1,by omega,this.2.2⟩
    .have y:q=a.length:=by omega
     have p:(a++[(i:Int)]).getD q 0=(i:Int):=by rw[dk,y,h5 (gx _)];simp
     rw[p];refine⟨by omega,by omega,λz=>?_⟩
     have:=f (q -1) (by omega);have m:(a++[(i:Int)]).getD (q -1) 0=a.getD (q -1) 0:=by rw[dk,ec (by omega),dk]
     rw[m];omega
   .have:=f q k;exact⟨this.1,by omega,this.2.2⟩
  .rw[aJ];exact ae ⟨rfl,w.1,n⟩
 .obtain⟨b,s,a,u⟩:=c;obtain⟨rfl,g,j,f⟩:=o;dsimp only at g j f⊢;unfold HH
  try dsimp only
  rw[aG];exact ae ⟨g,f⟩
def als(h:l.length<=400){f:ak}(H:CJ f){d:bD}(I:DI l d.L d.At):Ok (BX LC d f) λr=>DI l r.1 r.2.1/\r.2.2.length<=3/\∀a,a∈r.2.2->lS f.ai.length a:=by
 have O:=H.np;unfold BX;refine aD (ir h I 4 (by decide) (by decide)) λr F=>?_
 refine aD (Q:=λe:List Int×Int×List aS=>DI l e.1 e.2.1/\e.2.2.length<=3/\∀a,a∈e.2.2->lS f.ai.length a) ?_ λe q=>ae q
 refine oa (λc=>(0<=c.2.2.2/\c.2.2.2+(c.2.2.1.length:Int)<=3)/\DI l c.1 c.2.1/\∀a,a∈c.2.2.1->lS f.ai.length a) (λc=>c.2.2.2.toNat) _ (λc E=>?_) _ ⟨(by simp;omega),F.1,(λa s=>by cases s)⟩
 obtain⟨b,A,C,y⟩:=c;obtain⟨h0,p,o⟩:=E;dsimp only at h0 p o⊢;unfold R2
 try dsimp only
 refine aV (λN=>?_) (λ_=>ae ⟨p,by dsimp only;omega,o⟩)
 refine aD (apv h f.ai.length (by omega) (d:=⟨b,A⟩) p) λv x=>?_
 refine aD (iM h (d:=⟨v.1,v.2.1⟩) x.1 [9,29,4] (by decide) (by decide)) λj w=>?_
 refine aD (ir h (d:=⟨j.1,j.2.1⟩) w.1 3 (by decide) (by decide)) λu G=>?_
 refine aD (iM h (d:=⟨u.1,u.2.1⟩) G.1 [0,1,5] (by decide) (by decide)) λk m=>?_
 have L:4<=j.2.2/\j.2.2<=29:=by have:=w.2;simp at this;omega
 have M:0<=k.2.2/\k.2.2<=5:=by have:=m.2;simp at this;omega
 rw[aJ (n:=1+j.2.2)];refine aD (Q:=λe:xe=>∃g a,e=JB g a/\DI l g.L g.At/\lS f.ai.length a) ?_ λe q=>?_
 .refine aV (λ_=>?_) (λJ=>ae ⟨_,_,rfl,m.1,⟨by dsimp only;omega,x.2,by dsimp only;omega,by dsimp only;omega,by dsimp only;omega⟩⟩)
  refine aD (ir h (d:=⟨k.1,k.2.1⟩) m.1 (f.ai.length:Int) (by omega) (by omega)) λK t=>ae ⟨_,_,rfl,t.1,⟨by simp,cj.one t.2.1 (by omega),by dsimp only;omega,by dsimp only;omega,by dsimp only;omega⟩⟩
 .obtain⟨g,a,rfl,z,s⟩:=q;show Ok ((bj 48 C [a]).bind λB=>c7 (eo (g.L,g.At,B,c3 c4 (y -1)))) _
  rw[dm (by decide) (by omega),aa,aJ];refine ae ⟨⟨by simp;omega,z,λD i=>?_⟩,by dsimp only;omega⟩
  rcases ea.1 i with i |i
  .exact o D i
  .rw[dT] at i;rw[i];exact s
def afs(s:l.length<=400){m:ak}(C:CJ m){d:bD}(D:DI l d.L d.At):Ok (Cq LC d m) λr=>DI l r.1 r.2.1/\r.2.2.length=m.af.length/\∀a,a∈r.2.2->ke a:=by
 have H:=C.nr;unfold Cq;refine aD (Q:=λe:List Int×Int×List bI=>DI l e.1 e.2.1/\e.2.2.length=m.af.length/\∀a,a∈e.2.2->ke a) ?_ λe t=>ae t
 refine di m.af.length (λi f=>f.2.2.2=(i:Int)/\DI l f.1 f.2.1/\f.2.2.1.length=i/\∀a,a∈f.2.2.1->ke a) _ (λi f J u=>?_) (λf u=>?_) _ ⟨rfl,D,rfl,λa c=>by cases c⟩
 .obtain⟨b,w,x,B⟩:=f;obtain⟨rfl,p,j,q⟩:=u;dsimp only at p j q⊢;unfold JQ
  try dsimp only
  rw[aC];refine aD (iM s (d:=⟨b,w⟩) p [0,1000,5000,20000,(-5000),(-20000),4999,100] (by decide) (by decide)) λg y=>?_
  refine aD (iM s (d:=⟨g.1,g.2.1⟩) y.1 [0,1,1000,6000] (by decide) (by decide)) λk v=>?_
  refine aD (iM s (d:=⟨k.1,k.2.1⟩) v.1 [0,1,500] (by decide) (by decide)) λh z=>?_
  have E: -20000<=g.2.2/\g.2.2<=20000:=by have:=y.2;simp at this;omega
  have I:0<=k.2.2/\k.2.2<=6000:=by have:=v.2;simp at this;omega
  have F:0<=h.2.2/\h.2.2<=500:=by have:=z.2;simp at this;omega
  rw[aJ (n:=g.2.2 -k.2.2),aJ (n:=g.2.2+h.2.2),dm (by decide) (by omega),aa];refine aD (p9 s (d:=⟨h.1,h.2.1⟩) z.1 9 (by decide)) λG A=>?_
  have c:∀a,a∈x++[bI.mk (g.2.2 -k.2.2) (g.2.2+h.2.2)]->ke a:=λa c=>by
   rcases ea.1 c with c |c
   .exact q a c
   .rw[dT] at c;rw[c];unfold ke;dsimp only;omega
  refine aD (Q:=λe:List bI=>e.length=i+1/\∀a,a∈e->ke a) ?_ λe t=>?_
  .refine dy (λ_=>?_) (λ_=>ae ⟨by simp[j],c⟩)
   rw[jF ⟨0,0⟩ (by omega) (by simp;omega),aa,get_at ⟨0,0⟩ (by omega) (by simp;omega),aa];refine ae ⟨by simp[j],λa o=>?_⟩
   rcases ei o with o |o
   .exact c a o
   .rw[o];unfold ke;dsimp only;omega
  .rw[aJ];exact ae ⟨rfl,A,t⟩
 .obtain⟨b,w,x,B⟩:=f;obtain⟨rfl,p,j,q⟩:=u;dsimp only at p j q⊢;unfold JQ
  try dsimp only
  rw[aG];exact ae ⟨p,j,q⟩
end
def JL{d b g a:Int}{l:List Int}(f:cj d b l)(n:b<a)(j:a<=g)(k:d<=a):cj d g (l++[a]):=λq i=>by
 simp only[ft,hI] at i
 by_cases h:q<l.length
 .have:=f q h;have c:(l++[a]).getD q 0=l.getD q 0:=by rw[dk,ec h,dk]
  have e:(l++[a]).getD (q -1) 0=l.getD (q -1) 0:=by rw[dk,ec (by omega),dk]
  rw[c,e];exact⟨this.1,by omega,this.2.2⟩
 .have m:q=l.length:=by omega
  have c:(l++[a]).getD q 0=a:=by rw[dk,m,h5 (gx _)];simp
  rw[c];refine⟨k,j,λo=>?_⟩
  have:=f (q -1) (by omega);have e:(l++[a]).getD (q -1) 0=l.getD (q -1) 0:=by rw[dk,ec (by omega),dk]
  rw[e];omega
def cj.up{a b c d:Int}{e:List Int}(h:cj a b e)(j:c<=a)(k:b<=d):cj c d e:=λi hi=>by
 have:=h i hi;exact⟨by omega,by omega,this.2.2⟩
def PF:∀{a:List Int},a.Pairwise (·<=·)->dQ a=a
 |[],_=>rfl
 |b::a,d=>by
  obtain⟨f,e⟩:=List.pairwise_cons.1 d;show mM b (dQ a)=b::a
  rw[PF e];cases a with
  |nil=>rfl
  |cons c a=>
   show(bif c5 (b<=c) then b::c::a else c::mM b a)=_
   rw[aC (f c (by simp))]
def cj.pw{a b:Int}{d:List Int}(h:cj a b d):d.Pairwise (·<=·):=by
 refine hq.2 λi j hi c e=>?_
 have:=h.lt e c;rw[pu (c6 hi),pu (c6 c)] at this;omega
def cj.bo{a:List Int}(h:cj 1 65535 a):lz a:=by
 unfold lz;rw[PF h.pw];exact h
def has_eq{l:List Int}{x:Int}(h:Fit l):xb LC l x=c7 (c5 (x∈l)):=by
 have r:l.length<=4611686018427387904:=h;have q:=Bb (l:=l) (x:=x) h;have k:Ok (bO (λe=>DG LC l x e) 0) λg=>(g= .inl ()/\x∈l)\/(g= .inr ()/\x∉l):=by
  refine di l.length (λi e=>e=(i:Int)/\∀c,c<i->l[c]? ≠c7 x) _ (λi e d a=>?_) (λe a=>?_) _ ⟨rfl,λc m=>by omega⟩
  .obtain⟨rfl,a⟩:=a;unfold DG;rw[aC,bn,c6 d,aa];refine aV (λb=>ae (.inl ⟨rfl,by rw[<-b];exact dv d⟩)) (λb=>?_)
   rw[aJ];refine ae ⟨rfl,λc m f=>?_⟩
   by_cases o:c=i
   .subst o;rw[c6 d] at f;injection f with f
    exact b f
   .exact a c (by omega) f
  .obtain⟨rfl,a⟩:=a;unfold DG;rw[aG];refine ae (.inr ⟨rfl,λp=>?_⟩)
   obtain⟨i,d,rfl⟩:=dt.1 p;exact a i d (c6 d)
 unfold xb;obtain⟨g,n,j⟩:=k;refine(dL n).trans ?_
 rcases j with⟨rfl,b⟩ |⟨rfl,b⟩
 .rw[decide_eq_true b];rfl
 .rw[decide_eq_false b];rfl
def N1(c:bI)(a b:Int):Ok (xG LC c a b) λ_=>True:=by
 unfold xG;exact aV (λ_=>aV (λ_=>ae trivial) (λ_=>ae trivial)) (λ_=>ae trivial)
def ajL{a:ak}(g:cP a):Ok (EI LC a) λ_=>True:=by
 have k:=g.1;have j:=g.2.1;unfold EI;refine aD (Q:=λ_=>True) (aV (λ_=>ae trivial) (λ_=>ae trivial)) λb _=>?_
 refine dy (λ_=>ae trivial) (λ_=>?_)
 refine aD (Q:=λ_=>True) ?_ λe _=>?_
 .refine di a.ai.length (λi c=>c=(i:Int)) _ (λi c f d=>?_) (λc d=>?_) _ rfl
  .subst d;unfold IS;rw[aC,bn,c6 f,aa];refine aD (Q:=λ_=>True) (aV (λ_=>ae trivial) (λ_=>ae trivial)) λb _=>?_
   refine dy (λ_=>ae trivial) (λ_=>?_)
   rw[aJ];exact ae (by dsimp only;omega)
  .subst d;unfold IS;rw[aG];exact ae trivial
 .cases e with
  |inl _=>exact ae trivial
  |inr _=>
   show Ok ((bO _ _).bind _) _
   refine aD (Q:=λ_=>True) ?_ λe _=>by cases e <;> exact ae trivial
   refine di a.af.length (λi c=>c=(i:Int)) _ (λi c f d=>?_) (λc d=>?_) _ rfl
   .subst d;unfold KX;rw[aC,bn,c6 f,aa];have tr:∀{p:Prop} [Decidable p] {a:Option Bool},Ok a (λ_=>True)->Ok (bif decide p then c7 true else a) λ_=>True:=λ{p} _ {a} h=>aV (λ_=>ae trivial) (λ_=>h)
    refine aD (Q:=λ_=>True) (tr (tr (tr (tr (ae trivial))))) λb _=>?_
    refine dy (λ_=>ae trivial) (λ_=>?_)
    refine aD (Q:=λ_=>True) (tr (tr (tr (tr (aD (N1 _ _ _) λb _=>dy (λ_=>ae trivial) λ_=>aD (N1 _ _ _) λb _=>ae trivial))))) λb _=>?_
    refine dy (λ_=>ae trivial) (λ_=>?_)
    rw[aJ];exact ae (by dsimp only;omega)
   .subst d;unfold KX;rw[aG];exact ae trivial
def Lx{c:ak}(e:cP c){i:Nat}(h:i<c.af.length)(b:Bool):Ok (wm LC c (i:Int) b) λ_=>True:=by
 have n:=e.2.1;have f:=c6 h;have g:=dv h;generalize c.af[i]=r at f g;have s:=(e.2.2.2 r g).1;unfold wm Gv;refine aD (Q:=λ_=>True) ?_ λ_ _=>ae trivial
 refine aD (Q:=λ_=>True) ?_ λq _=>?_
 .refine aD (ajL e) λp _=>?_
  refine aV (λ_=>ae trivial) (λ_=>aV (λ_=>ae trivial) (λ_=>aV (λ_=>ae trivial) (λ_=>?_)))
  rw[bn,f,aa,aa];exact dy (λ_=>ae trivial) (λ_=>ae trivial)
 .refine dy (λ_=>ae trivial) (λ_=>?_)
  rw[bn,f,aa];obtain⟨a,j,d⟩:∃a:Int×Int,Da LC r b=c7 a/\(0<=a.1/\a.1<(c.ai.length:Int))/\0<=a.2/\a.2<(c.ai.length:Int):=by
   unfold Da;cases b
   .exact⟨_,rfl,by dsimp only;omega,by dsimp only;omega⟩
   .exact⟨_,rfl,by dsimp only;omega,by dsimp only;omega⟩
  rw[j,aa,jF ⟨0,false⟩ d.2.1 d.2.2,aa,jF ⟨0,false⟩ d.1.1 d.1.2,aa];refine aD (Q:=λr:Int=>r≠0) (aV (λ_=>ae (by decide)) (λ_=>ae (by decide))) λm k=>?_
  refine aD (Q:=λr:Int=>r≠0) (aV (λ_=>ae (by decide)) (λ_=>ae k)) λo l=>?_
  rw[Ek l,aa];exact ae trivial
def Yh{c:ak}(g:cP c){ar:List Int}(l:Fit ar):Ok (Dt LC c ar) λr=>r.length<=c.af.length/\cj 0 ((c.af.length:Int) -1) r:=by
 have p:=g.2.1;unfold Dt;refine aD (Q:=λr:List Int=>r.length<=c.af.length/\cj 0 ((c.af.length:Int) -1) r) ?_ λf h=>ae h
 refine di c.af.length (λi a=>a.2=(i:Int)/\a.1.length<=i/\cj 0 ((i:Int) -1) a.1) _ (λi a k j=>?_) (λa j=>?_) _ ⟨rfl,gx _,cj.nil⟩
 .obtain⟨o,n⟩:=a;obtain⟨rfl,e,d⟩:=j;dsimp only at e d⊢;unfold Hh;rw[aC,bn,c6 k,aa];refine aD (Q:=λ_=>True) ?_ λb _=>?_
  .refine aD (Lx g k false) λm _=>?_
   exact aV (λ_=>ae trivial) (λ_=>aD (Lx g k true) λm _=>ae trivial)
  refine aD (Q:=λ_=>True) ?_ λb _=>?_
  .refine dy (λ_=>dy (λ_=>?_) (λ_=>ae trivial)) (λ_=>ae trivial)
   rw[has_eq l,aa,has_eq l,aa];exact ae trivial
  refine aD (Q:=λf:List Int=>f.length<=i+1/\cj 0 (((i+1:Nat):Int) -1) f) ?_ λf h=>?_
  .refine dy (λ_=>?_) (λ_=>ae ⟨by omega,d.up (dd _) (by omega)⟩)
   rw[dm (by decide) (by omega),aa];exact ae ⟨by simp;omega,JL d (by omega) (by omega) (by omega)⟩
  .rw[aJ];exact ae ⟨rfl,h⟩
 .obtain⟨o,n⟩:=a;obtain⟨rfl,e,d⟩:=j;dsimp only at e d⊢;unfold Hh;rw[aG];exact ae ⟨e,d⟩
structure yJ (s:gM):Prop where
 fN:CJ s.ao
 rd:s.aQ.length<=3/\∀x,x∈s.aQ->lS s.ao.ai.length x
 pl:(1<=s.ai.length/\s.ai.length<=3)/\∀x,x∈s.ai->0<=x/\x<(s.ao.ai.length:Int)
 tg:s.aw.length=s.ai.length/\lz s.aw
 fl:s.cI.length=s.ao.af.length/\∀x,x∈s.cI->ke x
 es:lH s.ao s.bR/\s.bR.dg=[]/\s.bR.dG=[]/\s.bR.akL.length<=1
 bl:rR s.bM/\s.bM.bT.length<=2/\∀x,s.bM.bT[s.bM.bT.length -1]?=c7 x->x<(s.ao.ai.length:Int)
 br:(1<=s.gZ.length/\s.gZ.length<=10)/\cj 0 ((s.ao.af.length:Int) -1) s.gZ
section
variable {l:List Int}
def alo(h:l.length<=400):Ok (zy LC ⟨l,0⟩) λr=>DI l r.1 r.2.1/\yJ r.2.2:=by
 unfold zy;refine aD (amM h DI.init) λZ C=>?_
 obtain⟨am,aj,m⟩:=Z;obtain⟨C,u⟩:=C;dsimp only at C u⊢;have aB:=u.np;have au:=u.nr;refine aD (als h (d:=⟨am,aj⟩) u C) λs M=>?_
 refine aD (ir h (d:=⟨s.1,s.2.1⟩) M.1 3 (by decide) (by decide)) λB ak=>?_
 rw[aJ (n:=1+B.2.2)];refine aD (Q:=λg=>∃e f a c,g=(e,f,m.ai,m.af,s.2.2,a,c,([]:List bI),([]:List Int),([]:List Int),([]:List Int),([]:List Int),([]:List Int))/\DI l e f/\((1<=a.length/\a.length<=3)/\∀j,j∈a->0<=j/\j<(m.ai.length:Int))/\c.length=a.length/\cj 1 65535 c) ?_ λaw ab=>?_
 .obtain⟨n,ai⟩:∃n:Nat,1+B.2.2=(n:Int):=⟨(1+B.2.2).toNat,by omega⟩;rw[ai];refine di n (λi G=>∃e f a c,G=(e,f,m.ai,m.af,s.2.2,([]:List bI),([]:List Int),([]:List Int),([]:List Int),([]:List Int),([]:List Int),a,c,((n:Int) -i))/\DI l e f/\(a.length=i/\∀j,j∈a->0<=j/\j<(m.ai.length:Int))/\c.length=a.length/\cj 1 (30 -7*((n:Int) -i+1)) c) _ (λi G ay E=>?_) (λG E=>?_) _ ⟨B.1,B.2.1,[],[],by simp,ak.1,⟨rfl,(λj o=>by cases o)⟩,rfl,cj.nil⟩
  .obtain⟨e,f,a,c,rfl,w,y,x,A⟩:=E;unfold F8;dsimp only;rw[aC];refine aD (ir h (d:=⟨e,f⟩) w (m.ai.length:Int) (by omega) (by omega)) λr k=>?_
   rw[dm (by decide) (by omega),aa,aJ (n:=7*((n:Int) -i)) (by omega) (by omega),aJ (n:=30 -7*((n:Int) -i)) (by omega) (by omega),dm (by decide) (by omega),aa,aJ];refine ae ⟨r.1,r.2.1,a++[r.2.2],c++[30 -7*((n:Int) -i)],?_,k.1,⟨by simp;omega,λj o=>?_⟩,by simp[x],JL A (by omega) (by omega) (by omega)⟩
   .rw[show(n:Int) -i -1=(n:Int) - ((i+1:Nat):Int) by omega]
   .rcases ea.1 o with o |o
    .exact y.2 j o
    .rw[dT] at o;rw[o];exact k.2
  .obtain⟨e,f,a,c,rfl,w,y,x,A⟩:=E;unfold F8;dsimp only;rw[aG];exact ae ⟨e,f,a,c,rfl,w,⟨by omega,y.2⟩,x,A.up (dd _) (by omega)⟩
 obtain⟨e,f,a,c,rfl,w,y,x,A⟩:=ab;dsimp only;refine aD (afs h (m:=⟨m.ai,m.af⟩) (d:=⟨e,f⟩) u w) λv J=>?_
 refine aD (iM h (d:=⟨v.1,v.2.1⟩) J.1 [600,100,2000] (by decide) (by decide)) λp N=>?_
 have aA:100<=p.2.2/\p.2.2<=2000:=by have:=N.2;simp at this;omega
 refine aD (p9 h (d:=⟨p.1,p.2.1⟩) N.1 3 (by decide)) λK O=>?_
 refine aD (Q:=λg=>∃e f safe,g=(e,f,m.ai,m.af,s.2.2,a,c,v.2.2,safe,([]:List Int),([]:List Int),p.2.2,([]:List Int),([]:List Int))/\DI l e f/\cj 0 ((m.ai.length:Int) -1) safe/\safe.length<=1) ?_ λav V=>?_
 .refine dy (λ_=>?_) (λ_=>ae ⟨_,_,[],rfl,O,cj.nil,by simp⟩)
  exact aD (ir h (d:=⟨K.1,K.2.1⟩) O (m.ai.length:Int) (by omega) (by omega)) λr k=>ae ⟨_,_,[r.2.2],rfl,k.1,cj.one k.2.1 (by omega),by simp⟩
 obtain⟨al,U,safe,rfl,X,ao,Y⟩:=V;dsimp only;refine aD (iM h (d:=⟨al,U⟩) X [299,4] (by decide) (by decide)) λq L=>?_
 have ax:4<=q.2.2/\q.2.2<=299:=by have:=L.2;simp at this;omega
 refine aD (iM h (d:=⟨q.1,q.2.1⟩) L.1 [99,1799] (by decide) (by decide)) λt H=>?_
 have ap:99<=t.2.2/\t.2.2<=1799:=by have:=H.2;simp at this;omega
 rw[aJ (n:=(m.ai.length:Int) -2),aJ (n:=(m.ai.length:Int) -1),aJ (n:=1+q.2.2),aJ (n:=1+t.2.2)];refine aD (Q:=λg:List Int×Int×Bool=>DI l g.1 g.2.1/\(g.2.2=true->2<(m.ai.length:Int))) ?_ λP D=>?_
 .refine aV (λT=>?_) (λ_=>ae ⟨H.1,λz=>by cases z⟩)
  exact aD (p9 h (d:=⟨t.1,t.2.1⟩) H.1 3 (by decide)) λr k=>ae ⟨k,λ_=>T⟩
 refine aD (Q:=λg:DN=>∃ar,g=zl ⟨m,s.2.2,a,c,v.2.2,⟨safe,[],[],p.2.2⟩,⟨ar,1+q.2.2,1+t.2.2⟩,[]⟩/\ar.length≠0/\ar.length<=2/\cj 0 ((m.ai.length:Int) -1) ar) ?_ λaz ad=>?_
 .refine dy (λz=>ae ⟨_,rfl,by simp,by simp,?_⟩) (λ_=>ae ⟨_,rfl,by simp,by simp,cj.one (by omega) (by omega)⟩)
  have:=D.2 z;exact JL (l:=[(m.ai.length:Int) -2]) (b:=(m.ai.length:Int) -2) (cj.one (by omega) (by omega)) (by omega) (by omega) (by omega)
 obtain⟨ar,rfl,W,ag,R⟩:=ad;rw[show Nr (zl ⟨m,s.2.2,a,c,v.2.2,⟨safe,[],[],p.2.2⟩,⟨ar,1+q.2.2,1+t.2.2⟩,[]⟩)=⟨m,s.2.2,a,c,v.2.2,⟨safe,[],[],p.2.2⟩,⟨ar,1+q.2.2,1+t.2.2⟩,[]⟩ from rfl];dsimp only;refine aD (Yh u.ok (ar:=ar) (by show ar.length<=_;omega)) λI af=>?_
 have fin:∀(b:List Int),(1<=b.length/\b.length<=10)->cj 0 ((m.af.length:Int) -1) b->yJ ⟨m,s.2.2,a,c,v.2.2,⟨safe,[],[],p.2.2⟩,⟨ar,1+q.2.2,1+t.2.2⟩,b⟩:=λb an ah=>by
  refine⟨u,M.2,y,⟨x,A.bo⟩,J.2,⟨⟨u.ok,ao,cj.nil,cj.nil,?_,?_⟩,rfl,rfl,Y⟩,⟨⟨W,R.up (by decide) (by omega),⟨?_,?_⟩,?_,?_⟩,ag,λj o=>?_⟩,an,ah⟩
  .dsimp only;omega
  .dsimp only;omega
  .dsimp only;omega
  .dsimp only;omega
  .dsimp only;omega
  .dsimp only;omega
  .have:=R.mem (fC o);show j<(m.ai.length:Int)
   omega
 refine aD (Q:=λg:List Int×Int×Bool=>DI l g.1 g.2.1/\(g.2.2=false->1<=I.length)) ?_ λS F=>?_
 .refine aV (λ_=>ae ⟨D.1,λz=>by cases z⟩) (λaq=>?_)
  exact aD (p9 h (d:=⟨P.1,P.2.1⟩) D.1 8 (by decide)) λr k=>ae ⟨k,λ_=>by omega⟩
 refine dy (λ_=>?_) (λac=>ae ⟨F.1,fin I ⟨F.2 ac,by omega⟩ af.2⟩)
 exact aD (ir h (d:=⟨S.1,S.2.1⟩) F.1 (m.af.length:Int) (by omega) (by omega)) λr k=>ae ⟨k.1,fin [r.2.2] (by simp) (cj.one k.2.1 (by omega))⟩
end
def ajS{c:List Int}{b:ak}(e:cj 0 ((b.af.length:Int) -1) c)(i:b.af.length<=1000)(g:c.length<=1000):zi LC c b=c7 false:=by
 unfold zi;have d:Ak LC c b=c7 (gg (λa=>!c5 (0<=a/\a<=(b.af.length:Int) -1)) c):=by
  unfold Ak;refine fF (P:=λa=>zm LC a b) (by omega) (λa _=>?_) λh=>rfl
  unfold zm;rw[aJ,cF,aa]
 rw[d,aa,gm]
 congr 1
 rw[hz];intro a f;have:=e.mem f;simp[this.1,this.2]
structure Lr (m:ak) (bo ps:List Int) (b:aL):Prop where
 ex:∃wh,b=⟨[⟨bo,wh⟩]⟩/\wh.length=ps.length/\∀(i:Nat) x p,wh[i]?=c7 x->ps[i]?=c7 p->x.aa0=0/\jK m x/\fn x.an p<=0
def adm{f:ak}{g c:List Int}(w:cP f)(J:g.length=c.length)(I:1<=c.length/\c.length<=3)(E:lz g)(y:∀a,a∈c->0<=a/\a<(f.ai.length:Int)):Ok (Bk LC f g c 0) λq=>q.2=0/\Lr f g c q.1:=by
 unfold Bk;rw[ko,aa,decide_eq_true w,e5,cond_false,aG,cF,aa,decide_eq_true (by omega),e5,aa,cond_false,O6 (cX (n:=3) (by omega) (by decide)),aa,decide_eq_true E,e5,cond_false,bV (cX (n:=3) (by omega) (by decide)),aa];refine aD (Q:=λs=>∃b,s=gb (g,b)/\b.length=c.length/\∀(i:Nat) a p,b[i]?=c7 a->c[i]?=c7 p->a.aa0=0/\jK f a/\fn a.an p<=0) ?_ λs B=>?_
 .refine di c.length (λi r=>∃b,r=(g,b,(i:Int))/\b.length=i/\∀(i:Nat) a p,b[i]?=c7 a->c[i]?=c7 p->a.aa0=0/\jK f a/\fn a.an p<=0) _ (λi r u m=>?_) (λr m=>?_) _ ⟨[],rfl,rfl,λi a p d=>by simp at d⟩
  .obtain⟨b,rfl,e,j⟩:=m;unfold HP;dsimp only;have o:=c6 u;have v:=dv u;generalize c[i]=p at o v;rw[aC,bn,o,aa];refine aD (aaW w (y p v) (t:=0) (by decide)) λq x=>?_
   obtain⟨z,H,A,C⟩:=x;rw[aG (by rw[z];simp),dm (by decide) (by omega),aa,aJ];refine ae ⟨b++[q.1],rfl,by simp[e],λk a G d h=>?_⟩
   by_cases F:k<b.length
   .rw[ec F] at d;exact j k a G d h
   .have D:k=i:=by
     have:=(eE.1 d).1;simp at this;omega
    subst D;rw[h5 (by omega),e,Nat.sub_self] at d;have d:c7 q.1=c7 a:=d;injection d with d
    rw[o] at h;injection h with h
    subst d;subst h;exact⟨H,A,C⟩
  .obtain⟨b,rfl,e,j⟩:=m;unfold HP;dsimp only;rw[aG];exact ae ⟨b,rfl,e,j⟩
 .obtain⟨b,rfl,e,j⟩:=B;exact ae ⟨rfl,⟨b,rfl,e,j⟩⟩
def anj:Ok (DL LC) λa=>Sm a.dl/\Sm a.dr:=by
 unfold DL;rw[show(32:Int)=((32:Nat):Int) from rfl,Oa (by decide),aa,nS (by decide) (by decide),aa];exact ae ⟨by show(ef 32 (-1:Int)).length<=_;rw[ga];decide,by show(ef _ (0:Int)).length<=_;rw[ga];decide⟩
structure vD (s:gM) (p:aE):Prop where
 ex:∃x b bs,p=⟨xj s.ao s.aQ s.ai s.aw 0,s.ao,s.cI,s.bR,s.bM,ef s.aQ.length (aT.mk 0 0 0 []),[],x,b,⟨0,[]⟩,⟨s.gZ,bs,false⟩,⟨0,0,0,0⟩,⟨[]⟩,[],[]⟩/\(Sm x.dl/\Sm x.dr)/\Lr s.ao s.aw s.ai b/\bs=ef s.gZ.length 0
def vD.mD{s:gM}(c:yJ s){p:aE}(h:vD s p):dW s.ai.length s.ao.ai.length p:=by
 obtain⟨x,b,J,rfl,y,t,rfl⟩:=h.ex;obtain⟨wh,rfl,o,H⟩:=t.ex;have F:=c.fN.ok;have A:=c.pl.1;have d:=c.rd;have u:=c.fN.nr;have I:=c.fN.np;have k:=c.br;refine {n3:=A,kN:=?_,fN:=rfl,gq:=F,gk:=rfl,iz:=by show(s.ai.map _).length=_;rw[e6],jR:=d.1,kj:=by show(s.aQ.map _).length=_;rw[e6];rfl,uD:=c.fl.1,kI:=?_,qx:=cX c.bl.2.1 (by decide),kn:=by show(ef _ _).length=_;rw[ga];rfl,rX:=?_,uB:=by show(0:Nat)<=60;decide,rW:=(λr d=>by cases d),int:=y,hZ:=?_,bne:=by simp,je:=.nil,pq:=.inl rfl,key:=?_,jY:=k.2,iI:=⟨by simp,(λa G=>by cases G),j7⟩,log:=by show(0:Nat)<=200;decide,uC:=(λh C=>by cases C)}
 .refine⟨cX (n:=7) I.2 (by decide),cX (n:=10) u.2 (by decide),?_,cX (n:=3) (by show s.aw.length<=3;have:=c.tg.1;omega) (by decide),cX (n:=3) d.1 (by decide),λr j=>?_,?_,?_,?_,λl B=>?_⟩
  .show(s.ai.map _).length<=1000000;rw[e6];omega
  .have:=(d.2 r j).2.1.len (by omega);show r.ai.length<=1000000
   omega
  .show(s.aQ.map _).length<=1000000;rw[e6];omega
  .show(s.aQ.map _).length<=1000000;rw[e6];omega
  .show(s.aQ.map _).length<=1000000;rw[e6];omega
  .obtain⟨r,_,rfl⟩:=j3.1 B;show(ef _ _).length<=1000000;rw[ga];omega
 .have e:=c.es;refine⟨⟨?_,?_,?_⟩,?_,?_,?_⟩
  .show s.bR.akL.length<=4611686018427387904;omega
  .show s.bR.dg.length<=4611686018427387904;rw[e.2.1];simp
  .show s.bR.dG.length<=4611686018427387904;rw[e.2.2.1];simp
  .show s.bR.akL.length<=1000000;omega
  .show s.bR.dg.length<=1000000;rw[e.2.1];simp
  .show s.bR.dG.length<=1000000;rw[e.2.2.1];simp
 .intro r j;rw[hB j];simp
 .refine⟨by simp,λw m=>?_⟩
  rw[dT] at m;subst m;refine⟨⟨o,λx D=>?_⟩,c.tg.1⟩
  obtain⟨i,hi,rfl⟩:=dt.1 D;exact(H i _ _ (c6 hi) (c6 (show i<s.ai.length by have hi:i<wh.length:=hi;omega))).2.1.1.1
 .refine⟨⟨by show(1:Int)<=(s.gZ.length:Int)/\(s.gZ.length:Int)<=12;omega,k.2.up (dd _) (by omega)⟩,by show(ef _ _).length=_;rw[ga],λn E=>?_,λh=>by cases h⟩
  rw[hB E]
  decide
def amU{a:gM}(c:yJ a):Ok (wX LC a.ao a.aQ a.ai a.aw a.cI a.bR a.bM a.gZ) λr=>r.2=0/\vD a r.1:=by
 have j:=c.fN.ok;have g:=c.pl;have z:=c.rd;have G:=c.fN.nr;have I:=c.fN.np;have f:=c.br;have e:=c.bl;unfold wX;rw[start_eq ⟨j,by omega,z.2⟩ c.tg.1 (by omega) g.2 c.tg.2 (by decide),aa,aG (by simp)];obtain⟨q,A,d⟩:=aqw a.ao a.cI [] 0 (by decide) (by show _<=4611686018427387904;omega);rw[A,aa];have u:q.2=0:=by
  rcases d with d |d
  .exact d.1
  .exact absurd ⟨⟨j,c.fl.1,c.fl.2⟩,cj.nil,by decide,by decide⟩ d.2
 have H:a.bM.bT.length≠0:=e.1.1;have h:a.bM.bT[a.bM.bT.length -1]?=c7 (a.bM.bT[a.bM.bT.length -1]'(by omega)):=c6 _;generalize a.bM.bT[a.bM.bT.length -1]'(by omega)=B at h;have i:=c.es;have E:lO a.bR:=⟨by show a.bR.akL.length<=4611686018427387904;omega,by show a.bR.dg.length<=4611686018427387904;rw[i.2.1];simp,by show a.bR.dG.length<=4611686018427387904;rw[i.2.2.1];simp⟩;have D:(bif c5 (q.2≠0) then c7 true else(rP LC a.ao a.bR).bind λt=>bif (!t) then c7 true else(oT LC a.bM (b7.mk 0 0 0 0)).bind λF=>bif (!F) then c7 true else(aj a.bM.bT (c3 c4 ((a.bM.bT.length:Int) -1))).bind λx=>c7 (c5 ((a.ao.ai.length:Int)<=x)):Option Bool)=c7 false:=by
  rw[aG (by rw[u];simp),Jc E,aa,decide_eq_true i.1,e5,cond_false,AH (by show a.bM.bT.length<=_;omega),aa,decide_eq_true ⟨e.1,Xp⟩,e5,cond_false,aJ,show((a.bM.bT.length:Int) -1)=((a.bM.bT.length -1:Nat):Int) by omega,bn,h,aa,decide_eq_false (by have:=e.2.2 B h;omega)]
 refine c8 D ?_
 rw[cond_false,ajS f.2 (by omega) (by omega),aa,cond_false];have s:uJ a.gZ:=⟨by omega,f.2.up (dd _) (by omega)⟩;have v:AQ LC a.gZ=c7 (⟨a.gZ,ef a.gZ.length 0,false⟩,0):=by
  unfold AQ;rw[Nq (by show _<=4611686018427387904;omega),aa,decide_eq_true s,e5,cond_false,bV (cX (n:=10) f.1.2 (by decide)),aa,nS (by omega) (by omega),aa,e4]
 rw[v,aa,aG (by simp)];obtain⟨b,w,y,p⟩:=adm j c.tg.1 g.1 c.tg.2 g.2;rw[w,aa,aG (by rw[y];simp),nS (by omega) (by omega),aa,e4];obtain⟨k,o,C⟩:=anj;rw[o,aa];have m:vD a ⟨xj a.ao a.aQ a.ai a.aw 0,a.ao,a.cI,a.bR,a.bM,ef a.aQ.length (aT.mk 0 0 0 []),[],k,b.1,⟨0,[]⟩,⟨a.gZ,ef a.gZ.length 0,false⟩,⟨0,0,0,0⟩,⟨[]⟩,[],[]⟩:=⟨k,b.1,_,rfl,C,p,rfl⟩;rw[abi (m.mD c).lC,aa];exact ae ⟨rfl,m⟩
def Vr{a:gM}(c:yJ a):Ok (Cw LC a) λr=>r.2=true/\vD a r.1:=by
 unfold Cw;exact aD (amU c) λr b=>ae ⟨decide_eq_true b.1,b.2⟩
def k9(b:Nat)(a:bH):Prop:=a.abv=3->0<=a.A/\a.A<max 1 (b:Int)
section
variable {l:List Int}
def anp(e:l.length<=400){d:bD}(q:DI l d.L d.At){p1 p2 p3 p5:Int}{nr:Nat}(A:p1<=1000)(y:p2<=1000)(C:p3<=1000)(z:nr<=1000)(B:p5<=1000):Ok (Di LC d p1 p2 p3 (max 1 (nr:Int)) p5) λr=>DI l r.1 r.2.1/\k9 nr r.2.2:=by
 unfold Di;refine aD (iM e q [1,1,2,2,3,4,3,4,5,6,7,8,9,10,11,12,13,7] (by decide) (by decide)) λa f=>?_
 refine aD (Q:=λi:vL=>∃g s,i=rB g s/\DI l g.L g.At/\k9 nr s) ?_ λi n=>by
  obtain⟨g,s,rfl,w,x⟩:=n;exact ae ⟨w,x⟩
 have no:∀{t b u o:Int},o≠3->k9 nr ⟨o,t,b,u⟩:=λ{t b u o} h q=>absurd q h
 refine aV (λh=>?_) (λ_=>?_)
 .exact aD (iM e (d:=⟨a.1,a.2.1⟩) f.1 [1,5,10,30,100,0,300] (by decide) (by decide)) λr c=>ae ⟨_,_,rfl,c.1,no (by omega)⟩
 refine aV (λh=>?_) (λ_=>?_)
 .refine aD (lW e (d:=⟨a.1,a.2.1⟩) f.1 p1 (by omega)) λr c=>?_
  refine aD (lW e (d:=⟨r.1,r.2.1⟩) c.1 p2 (by omega)) λk m=>?_
  exact aD (iM e (d:=⟨k.1,k.2.1⟩) m.1 [0,0,5,60] (by decide) (by decide)) λv p=>ae ⟨_,_,rfl,p.1,no (by omega)⟩
 refine aV (λh=>?_) (λj=>?_)
 .refine aD (ir e (d:=⟨a.1,a.2.1⟩) f.1 (max 1 (nr:Int)) (by omega) (by omega)) λr c=>?_
  refine aD (iM e (d:=⟨r.1,r.2.1⟩) c.1 [0,0,1,2,3] (by decide) (by decide)) λk m=>?_
  exact aD (iM e (d:=⟨k.1,k.2.1⟩) m.1 [0,0,1,(-1),3] (by decide) (by decide)) λv p=>ae ⟨_,_,rfl,p.1,λ_=>c.2⟩
 refine aV (λh=>?_) (λ_=>?_)
 .exact aD (lW e (d:=⟨a.1,a.2.1⟩) f.1 _ (by omega)) λr c=>ae ⟨_,_,rfl,c.1,no (by omega)⟩
 refine aV (λh=>?_) (λ_=>?_)
 .refine aD (lW e (d:=⟨a.1,a.2.1⟩) f.1 p1 (by omega)) λr c=>?_
  exact aD (lW e (d:=⟨r.1,r.2.1⟩) c.1 p1 (by omega)) λk m=>ae ⟨_,_,rfl,m.1,no (by omega)⟩
 refine aD (Q:=λi:List Int×Int×Int×Int×Int=>DI l i.1 i.2.1/\i.2.2.1≠3) ?_ λi n=>ae ⟨_,_,rfl,n.1,no n.2⟩
 refine aV (λh=>?_) (λ_=>?_)
 .exact aD (lW e (d:=⟨a.1,a.2.1⟩) f.1 p3 (by omega)) λr c=>ae ⟨c.1,j⟩
 refine aV (λh=>?_) (λ_=>?_)
 .exact aD (lW e (d:=⟨a.1,a.2.1⟩) f.1 p5 (by omega)) λr c=>ae ⟨c.1,j⟩
 refine aD (Q:=λ_=>True) (aV (λ_=>ae trivial) (λ_=>ae trivial)) λb _=>?_
 refine dy (λ_=>?_) (λ_=>?_)
 .exact aD (lW e (d:=⟨a.1,a.2.1⟩) f.1 2 (by decide)) λr c=>ae ⟨c.1,j⟩
 refine aV (λh=>?_) (λ_=>?_)
 .refine aD (lW e (d:=⟨a.1,a.2.1⟩) f.1 4 (by decide)) λr c=>?_
  rw[Ek (by decide),aa];exact ae ⟨c.1,j⟩
 refine aD (Q:=λ_=>True) (aV (λ_=>ae trivial) (λ_=>ae trivial)) λb _=>?_
 refine dy (λ_=>?_) (λ_=>ae ⟨f.1,j⟩)
 exact aD (lW e (d:=⟨a.1,a.2.1⟩) f.1 p2 (by omega)) λr c=>ae ⟨c.1,j⟩
def vx{c:Nat}{d b:List bH}(e:∀a,a∈d->k9 c a)(g:∀a,a∈b->k9 c a):∀a,a∈d++b->k9 c a:=λa f=>(ea.1 f).elim (e a) (g a)
def aqk(h:l.length<=400){d:bD}(f:DI l d.L d.At){I C:Nat}{p:aE}(k:dW I C p)(s:Int)(G:1<=s)(R:s<=1000):Ok (EJ LC d p s) λr=>DI l r.1 r.2.1/\r.2.2.length<=100/\∀b,b∈r.2.2->k9 p.au.aQ.length b:=by
 have O:=k.key.1.1;have S:=k.iz;have V:=k.n3;have T:=k.gq.1;have U:=k.gq.2.1;have X:=k.jR;unfold EJ;refine aD (ir h f s G (by omega)) λH J=>?_
 rw[aJ];refine aD (Q:=λa:List Int×Int×List bH=>DI l a.1 a.2.1/\a.2.2.length<=100/\∀b,b∈a.2.2->k9 p.au.aQ.length b) ?_ λa g=>ae g
 refine oa (λc=>(0<=c.2.2.2/\c.2.2.2<=5+H.2.2)/\DI l c.1 c.2.1/\c.2.2.1.length<=100/\∀b,b∈c.2.2.1->k9 p.au.aQ.length b) (λc=>c.2.2.2.toNat) _ (λc n=>?_) _ ⟨⟨(by dsimp only;omega),dd _⟩,J.1,by simp,(λb e=>by cases e)⟩
 obtain⟨D,F,t,i⟩:=c;obtain⟨h0,v,y,o⟩:=n;dsimp only at h0 v y o⊢;unfold T2;dsimp only;have L:(bif c5 (0<i) then c7 (c5 ((t.length:Int)<60)) else c7 false)=c7 (c5 (0<i/\(t.length:Int)<60)):=fm rfl;refine c8 L ?_
 refine aV (λZ=>?_) (λ_=>ae ⟨v,y,o⟩)
 refine aD (Q:=λa:List Int×Int×List bH=>DI l a.1 a.2.1/\a.2.2.length<=100/\∀b,b∈a.2.2->k9 p.au.aQ.length b) ?_ λa g=>by
  rw[aJ];exact ae ⟨⟨by dsimp only;omega,g⟩,by dsimp only;omega⟩
 refine aD (p9 h (d:=⟨D,F⟩) v 12 (by decide)) λr z=>?_
 refine dy (λ_=>?_) (λ_=>?_)
 .refine aD (Q:=λa:List bH=>a.length<=t.length+12/\∀b,b∈a->k9 p.au.aQ.length b) ?_ λa g=>?_
  .refine di p.aa2.af.length (λi c=>c.2=(i:Int)/\c.1.length=t.length+i/\∀b,b∈c.1->k9 p.au.aQ.length b) _ (λi c Y n=>?_) (λc n=>?_) _ ⟨rfl,rfl,o⟩
   .obtain⟨M,q⟩:=c;obtain⟨rfl,w,m⟩:=n;dsimp only at w m⊢;unfold II;rw[aC,dm (by decide) (by omega),aa,aJ];refine ae ⟨rfl,by simp;omega,vx m λb e=>?_⟩
    rw[dT] at e;subst e;exact λf=>absurd f (show ¬(7:Int)=3 by decide)
   .obtain⟨M,q⟩:=c;obtain⟨rfl,w,m⟩:=n;dsimp only at w m⊢;unfold II;rw[aG];exact ae ⟨by omega,m⟩
  .rw[pN (by simp;omega),aa];refine ae ⟨z,by simp;omega,vx g.2 λb e=>?_⟩
   simp at e;rcases e with rfl |rfl |rfl |rfl <;> exact λf=>absurd f (by decide)
 .refine aD (Q:=λa:List Int×Int×Bool=>DI l a.1 a.2.1/\(a.2.2=true->0<p.au.aQ.length)) (aD (p9 h (d:=⟨r.1,r.2.1⟩) z 3 (by decide)) λN A=>dy (λ_=>ae ⟨A,λf=>by have:=of_decide_eq_true f;omega⟩) (λ_=>ae ⟨A,λf=>by cases f⟩)) λa g=>?_
  refine dy (λE=>?_) (λ_=>?_)
  .have W:=g.2 E;refine aD (ir h (d:=⟨a.1,a.2.1⟩) g.1 (p.au.aQ.length:Int) (by omega) (by omega)) λu j=>?_
   refine aD (iM h (d:=⟨u.1,u.2.1⟩) j.1 [0,0,1] (by decide) (by decide)) λx K=>?_
   refine aD (iM h (d:=⟨x.1,x.2.1⟩) K.1 [1,5,10,20] (by decide) (by decide)) λP B=>?_
   rw[pN (by simp;omega),aa];refine ae ⟨B.1,by simp;omega,vx o λb e=>?_⟩
   simp at e;rcases e with rfl |rfl |rfl
   .exact λ_=>⟨j.2.1,by have:=j.2.2;show u.2.2<_;omega⟩
   .exact λf=>absurd f (show ¬(4:Int)=3 by decide)
   .exact λf=>absurd f (show ¬(1:Int)=3 by decide)
  .refine aD (anp h (d:=⟨a.1,a.2.1⟩) g.1 (p1:=(p.au.aN.length:Int)) (p2:=(p.ao.af.length:Int)) (p3:=(p.ao.ai.length:Int)) (nr:=p.au.aQ.length) (p5:=max 1 (p.aa2.af.length:Int)) (by omega) (by omega) (by omega) (by omega) (by omega)) λu j=>?_
   rw[dm (by decide) (by omega),aa];refine ae ⟨j.1,by simp;omega,vx o λb e=>?_⟩
   rw[dT] at e;rw[e];exact j.2
end
def gC.Gm{p j:aE}{e:bH}(h:gC p e j):j.au.aQ=p.au.aQ:=by
 cases h with
 |xZ _ _ _ _ _ c=>obtain⟨b,s,fl,sm,m,rfl,_⟩:=c.ex;rfl
 |xY _ _ _ _ _ _ _ _ _ c=>obtain⟨b,s,fl,sm,m,rfl,_⟩:=c.ex;rfl
 |look k rd G r _ _ c=>obtain⟨row,D,yp,a,l,A,u,E,n,y,C,o,B,d⟩:=c.ex;rw[d]
 |swap x b s w t _ _ _ _ _ _ _ _ d F n=>rw[d]
 |_=>rfl
def oA.Gm{p a:aE}{e:bH}{c:Int}(h:oA p e a c):a.au.aQ=p.au.aQ:=by
 cases h with
 |no c _=>rfl
 |bad al nm c _ _ _ _ _=>rfl
 |zI q nm d _ _ _=>exact d.Gm
noncomputable def L2:Lp:=⟨λf c=>match fY f 2000 c with |some b=>c7 b |none=>bO f c,λf c b a=>by
 cases d:fY f 2000 c with
 |some e=>rw[d] at a;exact⟨2000,d.trans a⟩
 |none=>rw[d] at a;exact zR a⟩
def ah0:L2=LC:=by
 unfold L2 LC
 congr 1
 funext α β f a
 cases b:fY f 2000 a with
 |some c=>exact(Cd b).symm
 |none=>rfl
def ZE:vn L2=c7 true:=by kernel_rfl
def WQ:vn LC=c7 true:=ah0▸ZE
def ajy(a:List Int):I1 LC a=c7 (c5 ((a.length:Int)<=400)):=rfl
structure Km (n:Nat) (p:aE) (q:aE):Prop where
 kI:q.bR=p.bR
 iI:q.bS=p.bS
 time:q.au.aa0=p.au.aa0
 iz:q.au.aN.length=p.au.aN.length
 fN:cP q.ao
 aqL:q.ao.ai.length=p.ao.ai.length
 aqM:lH q.ao {p.bR with dg:=filled p.bz (p.au.aa0+600)}
 pq:q.bz.an=[]↔p.bz.an=[]
 qE:∀k:Nat,k<n->∀x,x∈ld q.bw (k:Int) p.au.aa0->(∃a,a∈q.bS/\fX a 2 x)\/od q.ao {p.bR with dg:=filled p.bz (p.au.aa0+600)} x=true
def ag6{b:aL}{d c e a:Int}(g:a∈ld b d c)(o:c<=e):a∈ld b d e:=by
 obtain⟨h0,j,m,f,h,l,i,k,n⟩:=RJ.1 g;exact RJ.2 ⟨h0,j,m,f,h,l,i,k,by omega⟩
def gC.aoJ{n np:Nat}{p q:aE}{e:bH}(h:dW n np p)(F:e.abv=12)(u:gC p e q):Km n p q:=by
 have l:=u.mD h;cases u with
 |xY _ al z _ L B _ _ _ H=>
  obtain⟨b,s,fl,sm,U,rfl,S,d,V,R,T,J⟩:=H.ex;obtain⟨j,G,E⟩:=B.ex;have K:j=b:=by
   have d:kW LC (cY p.ao e.A) p.bw p.au.aa0=c7 (b,0):=d;rw[G] at d;injection d with d
   injection d
  subst K;have M:=uF p.ao e.A;refine⟨rfl,rfl,rfl,by show(p.au.aN.map _).length=_;rw[e6],l.gq,rfl,?_,?_,λk F x I=>?_⟩
  .obtain⟨_,c,a,w,O⟩:=B.kI;refine⟨l.gq,c,a,?_,O⟩
   show cj 0 (((cY p.ao e.A).af.length:Int) -1) p.bR.dG
   rw[M];exact w
  .have P:=h.gk;rcases J with⟨c,a⟩ |⟨c,a⟩
   .show sm.an=[]↔p.bz.an=[]
    have a:sm=p.bz:=a;rw[a]
   .have c:p.bz.an≠[]:=c;have a:sm.an.length=p.ao.ai.length:=a;show sm.an=[]↔p.bz.an=[]
    refine⟨λt=>?_,λt=>absurd t c⟩
    rw[t] at a;have w:p.ao.ai.length=0:=a.symm;rcases h.pq with y |y
    .exact y
    .exact ee.1 (by omega)
  .have N:fM n np j:=l.hZ;have o:j.aA≠[]:=l.bne;have C:j.aA[0]?=c7 (j.aA[0]'(ez.2 o)):=c6 _;have D:=dv (ez.2 o);generalize j.aA[0]'(ez.2 o)=A at C D;have Q:=(N.mX A D).1.1;rcases E A C k (by omega) x (ag6 I (by show p.au.aa0<=p.au.aa0+600;omega)) with m |m
   .exact .inl (L x m)
   .exact .inr m
 |wait h0 |walk _ h0 |look _ _ _ _ h0 |JE _ _ _ _ _ _ _ _ _ h0 |swap _ _ _ _ _ h0 |JD _ _ h0 |guard _ h0 |shut _ _ h0 |xZ _ h0 |JF _ _ h0=>omega
 |xX _ h0=>omega
instance (a:cy) (c b:Int):Decidable (fX a c b):=by unfold fX;infer_instance
structure Gh where
 tr:Nat->Tr
 tp:Int->Int->Int
 lk:Nat->Nat->abc
 c:Nat->Nat
structure Ghs (n np:Nat) (G:Gh) (T:Int):Prop where
 ok:∀k,k<n->(G.tr k).Ok T
 oV:∀k,k<n->∀u,0<=u->u<=T->0<=(G.tr k).pl u/\(G.tr k).pl u<(np:Int)
def ala(g:vG)(G:Gh)(T:Int)(bo:List Int)(f:ay):Prop:=
 f.aw=bo/\∀(d:Nat) a,f.aH[d]?=c7 a->Snd g (G.tr d) T a.aa0 (fn a.an)/\∀e,bo[d]?=c7 e->∀c,a.aa0<=c->c<=T->G.tp e c=(G.tr d).pl c
structure aan (m:ak) (G:Gh) (T:Int) (bo:List Int) (b:aL):Prop where
 wok:∀w,w∈b.aA->∀x,x∈w.aH->jK m x/\x.aa0<=T
 tru:∃w,w∈b.aA/\ala (rL m) G T bo w
section
variable {n np:Nat}{m:ak}{G:Gh}{T:Int}{bo:List Int}{b b':aL}
def c9{a:Type}{c:List a}{i:Nat}{e:a}(d:c[i]?=c7 e):i<c.length:=(eE.1 d).1
def fM.lt(a:fM n np b){w:ay}(c:w∈b.aA){i:Nat}{x:aM}(h:w.aH[i]?=c7 x):i<n/\x.an.length=np:=by
 have:=c9 h;exact⟨by have:=(a.mX w c).1.1;omega,(a.mX w c).1.2 x (fC h)⟩
def aan.Ls(I:Ghs n np G T)(N:fM n np b)(h:aan m G T bo b){tag L a t:Int}{A:List Int}(V:a<=L)(Q:L<=t)(M:t<=T)(K:G.tp tag L∈A)
 (P:oG (λx y=>y=x\/lG m x A a t y) (λx=>x.aa0<=a/\∀p,p∈A->t<fn x.an p) m tag b b'):aan m G T bo b':=by
 refine⟨λH D y C=>?_,?_⟩
 .obtain⟨w,l,i,x,aa,_,d,c,rfl⟩:=P.n.from_ H D;rcases ei C with C |rfl
  .exact h.wok w l y C
  .rcases c with rfl |c
   .exact h.wok w l _ (fC d)
   .exact⟨c.new,by rw[c.time];exact M⟩
 .obtain⟨w,l,ht,E⟩:=h.tru;have key:∀(i:Nat) x,w.aw[i]?=c7 tag->w.aH[i]?=c7 x->x.aa0<=a->(G.tr i).pl L∈A/\fn x.an ((G.tr i).pl L)<=t:=λi x s d ac=>by
   obtain⟨o,u⟩:=E i x d;have Z:=u tag (by rw[<-ht];exact s) L (by omega) (by omega);rw[Z] at K;have ab:=o.ok L (by omega) (by omega);have ad:=(I.ok i (N.lt l d).1).L3 L (by have:=o.lo;omega) (by omega);exact⟨K,by omega⟩
  rcases P.n.b9 w l with⟨H,D,i,x,aa,s,d,c,rfl⟩ |⟨i,x,s,d,F⟩
  .refine⟨_,D,ht,λk W j=>?_⟩
   obtain⟨o,u⟩:=E i x d;dsimp only at j;rw[fe] at j
   split at j
   .rename_i e;subst e
    split at j
    .injection j with j
     subst j;rcases c with rfl |c
     .exact⟨o,u⟩
     .have J:=c.from_;obtain⟨B,O⟩:=key i x s d J;refine⟨?_,λX U Y R S=>u X U Y (by rw[c.time] at R;omega) S⟩
      rw[c.time];exact o.Ls (I.ok i (N.lt l d).1) J V Q M (c.low _ B O) c.cl
    .cases j
   .exact E k W j
  .exfalso
   obtain⟨B,O⟩:=key i x s d F.1;have:=F.2 _ B;omega
def aan.abs(K:Ghs n np G T)(ae:fM n np b)(O:m.ai.length=np)(h:aan m G T bo b){tag a t bl:Int}{H:List Int}(N:t<=T)(X:∀s l,a<=s->l<=t->s<=l->(∀d,s<=d->d<=l->G.tp tag d∈H)->l -s<=bl)
 (R:oG (λx A=>A=x\/∃g1,og m x H a t bl A g1) (λ_=>False) m tag b b'):aan m G T bo b':=by
 refine⟨λJ C A B=>?_,?_⟩
 .obtain⟨w,u,i,x,af,_,o,c,rfl⟩:=R.n.from_ J C;rcases ei B with B |rfl
  .exact h.wok w u A B
  .rcases c with rfl |⟨g1,c⟩
   .exact h.wok w u _ (fC o)
   .exact⟨c.new,by rw[c.time];exact N⟩
 .obtain⟨w,u,ht,L⟩:=h.tru;rcases R.n.b9 w u with⟨J,C,i,x,af,Q,o,c,rfl⟩ |⟨i,x,Q,o,V⟩
  .refine⟨_,C,ht,λk ab j=>?_⟩
   obtain⟨F,E⟩:=L i x o;dsimp only at j;rw[fe] at j
   split at j
   .rename_i e;subst e
    split at j
    .injection j with j
     subst j;rcases c with rfl |⟨g1,c⟩
     .exact⟨F,E⟩
     .have ah:=c.from_;have hi:=(ae.lt u o).1;have ai:=F.lo;have M:=K.oV i hi;have I:=c.bl;refine⟨?_,λac Z d W Y=>E ac Z d (by rw[c.time] at W;omega) Y⟩
      rw[c.time];refine F.agP (K.ok i hi) (S:=λq=>q∈H) (b:=max a x.aa0) (to:=t) (blind:=bl) (g1:=fn g1) (by omega) N I.1 I.2 (λs l U P D ag=>?_) (λd U P D=>?_) c.c1 ?_ (by have:=c.new.2;rw[c.time] at this;exact this)
      .refine X s l (by omega) P D λd aa ad=>?_
       rw[E tag (by rw[<-ht];exact Q) d (by omega) (by omega)];exact ag d aa ad
      .have y:=M d (by omega) (by omega);exact c.off _ y.1 (by rw[O];exact y.2) D
      .have y:=M t (by omega) (by omega);exact c.le _ y.1 (by rw[O];exact y.2)
    .cases j
   .exact L k ab j
  .exact absurd V id
def acL{j:Type}{a:List j}{i c:Int}(l:0<=i/\i<(a.length:Int))(k:0<=c/\c<(a.length:Int))(d:Nat):(gL i c a)[d]?=if(d:Int)=c then a[i.toNat]? else if(d:Int)=i then a[c.toNat]? else a[d]? :=by
 have g:a[i.toNat]?=c7 (a[i.toNat]'(by omega)):=c6 (by omega);have h:a[c.toNat]?=c7 (a[c.toNat]'(by omega)):=c6 (by omega);unfold gL;rw[g,h];dsimp only;rw[fe,fe,e0]
 by_cases e:(d:Int)=c
 .rw[if_pos e,if_pos (by omega),if_pos (by omega)]
 .rw[if_neg e,if_neg (by omega)]
  by_cases f:(d:Int)=i
  .rw[if_pos f,if_pos (by omega),if_pos (by omega)]
  .rw[if_neg f,if_neg (by omega)]
def akY{d:Type}{a:List d}{i c:Int}:(gL i c a).length=a.length:=by
 unfold gL
 split
 .rw[e0,e0]
 .rfl
def jK.later{x a:aM}(h:jK m x)(c:a.an=x.an)(ht:x.aa0<=a.aa0)(k:a.aa0<=2147483648):jK m a:=by
 obtain⟨⟨e,l,j⟩,d⟩:=h;refine⟨⟨by rw[c];exact e,⟨by omega,k⟩,by rw[c];exact j⟩,?_⟩
 rw[c];exact EF d ht
def aan.Np(K:Ghs n np G T)(C:fM n np b)(h:aan m G T bo b)(S:0<=T/\T<=2147483648){i a:Int}(J:(G.tr i.toNat).pl T=(G.tr a.toNat).pl T)(D:AY m i a T n np b b'):aan m G T (gL i a bo) b':=by
 obtain⟨aQ,H,_,aH,ah,ar⟩:=D.ex;obtain⟨hi,aN,aF,_⟩:=D.ix;have rz:∀{w:ay} {k:Nat} {j:aM},(kH a T (kH i T w.aH))[k]?=c7 j->∃c,w.aH[k]?=c7 c/\j.an=c.an/\c.aa0<=j.aa0/\(j.aa0=c.aa0\/j.aa0=T)/\(((k:Int)=i\/(k:Int)=a)->T<=j.aa0):=λ{w k j} l=>by
  obtain⟨aP,a1,aw,aI,aK,al⟩:=F3 l;obtain⟨c,ae,au,aE,aL,af⟩:=F3 a1;refine⟨c,ae,aw.trans au,by omega,by omega,λt=>?_⟩
  rcases t with t |t
  .have:=af t S.2;omega
  .exact al t S.2
 have Q:∀o,o∈b'.aA->∀x,x∈o.aH->jK m x/\x.aa0<=T:=by
  refine H.b (λx=>jK m x/\x.aa0<=T) (λx A _ _ u V=>⟨u.1.join V.1 D.v.fN,by show max x.aa0 A.aa0<=T;have:=u.2;have:=V.2;omega⟩) λw d x u=>?_
  rcases ar w d with d |⟨aq,ax,rfl⟩
  .exact h.wok w d x u
  .obtain⟨k,l,rfl⟩:=dt.1 u;obtain⟨c,c1,N,W,aA,_⟩:=rz (c6 l);have:=h.wok aq ax c (fC c1);exact⟨this.1.later N W (by omega),by omega⟩
 refine⟨Q,?_⟩
 obtain⟨w,d,ht,l⟩:=h.tru;obtain⟨⟨aD,aC⟩,ao⟩:=C.mX w d;have ex:w.aH[i.toNat]?=c7 (w.aH[i.toNat]'(by omega)):=c6 (by omega);have E:w.aH[a.toNat]?=c7 (w.aH[a.toNat]'(by omega)):=c6 (by omega);generalize w.aH[i.toNat]'(by omega)=x at ex;generalize w.aH[a.toNat]'(by omega)=A at E;obtain⟨aa,aB⟩:=l _ x ex;obtain⟨R,av⟩:=l _ A E;have aev:∀{k:Nat} {z},w.aH[k]?=c7 z->Snd (rL m) (G.tr k) T z.aa0 (fn z.an)->(G.tr k).pl T∈dz z T:=λ{k z} M sz=>by
  have B:=K.oV k (C.lt d M).1 T (by omega) (dd _);have D:=(K.ok k (C.lt d M).1).L3 T (by omega) (dd _);have:=sz.ok T sz.le (dd _);exact Sq.2 ⟨B.1,by rw[(C.lt d M).2];exact B.2,by omega⟩
 obtain⟨o,F,an,az⟩:=H.a _ (ah w x A d ex E ⟨_,aev ex aa,by rw[J];exact aev E R⟩);have aj:=(H.c o F).1;refine⟨o,F,by rw[an];show gL i a w.aw=_;rw[ht],λk U I=>?_⟩
 have ac:k<n:=by have:=c9 I;have:=aj.1;omega
 have am:k<(rU i a T w).aH.length:=by show k<(kH a T (kH i T w.aH)).length;rw[ID,ID];omega
 have L:(rU i a T w).aH[k]?=c7 ((rU i a T w).aH[k]):=c6 am;generalize (rU i a T w).aH[k]=j at L;obtain⟨aJ,ak⟩:=az k j U L I;obtain⟨c,c1,N,W,aA,Z⟩:=rz L;obtain⟨Y,ai⟩:=l k c c1;have ad:=(Q o F U (fC I)).2;have B:=K.oV k ac;have aO:=Y.lo;refine⟨Y.raise (by omega) ad λy ab P=>?_,λO s y ab P=>?_⟩
 .have X:=B y (by omega) P;have:=ak _ X.1 X.2;rw[N] at this;exact this
 .have aG:bo.length=n:=by rw[<-ht];exact ao
  rw[acL (by omega) (by omega)] at s
  split at s
  .rename_i ap;have:=Z (.inr ap);have e:y=T:=by omega
   rw[e,aB O s T aa.le (dd _),J,show a.toNat=k by omega]
  .split at s
   .rename_i ag;have:=Z (.inl ag);have e:y=T:=by omega
    rw[e,av O s T R.le (dd _), <-J,show i.toNat=k by omega]
   .exact ai O s y (by omega) P
def ai8(q:Ghs n np G T)(k:0<=T){h o:vG}{a:Nat}(p:a<n){c:aM}{g:Int->Int}(e:Snd h (G.tr a) T c.aa0 (fn c.an))(i:g ((G.tr a).pl T)<=fn c.an ((G.tr a).pl T)):Snd o (G.tr a) T T g:=
 ⟨k,dd _,λd f j=>absurd f (by omega),λd f j=>by
  have l:d=T:=by omega
  rw[l];exact j4 i (e.ok T e.le (dd _))⟩
def aan.renew(u:Ghs n np G T)(L:fM n np b)(h:aan m G T bo b)(y:0<=T){m':ak}(M:m'.ai.length=np)(O:gG (λx c=>mP m' x T c) b.aA b'.aA):aan m' G T bo b':=by
 obtain⟨R,C⟩:=O;refine⟨λP E c a=>?_,?_⟩
 .obtain⟨i,hi,rfl⟩:=dt.1 E;obtain⟨k,j,rfl⟩:=dt.1 a;have l:b.aA[i]?=c7 (b.aA[i]'(by omega)):=c6 _;obtain⟨_,r2,e⟩:=C i _ _ l (c6 hi);have d:(b.aA[i]'(by omega)).aH[k]?=c7 ((b.aA[i]'(by omega)).aH[k]'(by omega)):=c6 _;have:=e k _ _ d (c6 j);exact⟨this.new,by rw[this.time];exact dd _⟩
 .obtain⟨w,B,ht,j⟩:=h.tru;obtain⟨i,hi,rfl⟩:=dt.1 B;have l:=c6 hi;have d:b'.aA[i]?=c7 (b'.aA[i]'(by omega)):=c6 _;obtain⟨r1,r2,e⟩:=C i _ _ l d;refine⟨_,fC d,by rw[r1];exact ht,λk c a=>?_⟩
  have Q:=c9 a;have o:b.aA[i].aH[k]?=c7 (b.aA[i].aH[k]'(by omega)):=c6 _;have s:=e k _ c o a;obtain⟨D,I⟩:=j k _ o;have t:=(L.lt B o).1;have A:=u.oV k t T y (dd _);refine⟨?_,λK H N J F=>I K H N (by rw[s.time] at J;have:=D.le;omega) F⟩
  rw[s.time];exact ai8 u y t D (s.le _ A.1 (by rw[M];exact A.2))
def aan.shut(B:Ghs n np G T)(ac:fM n np b)(h:aan m G T bo b)(D:0<=T){Q:List Int}(ad:m.ai.length=np)(af:Ff m b Q T n np b'):∃c,ki m Q c/\aan c G T bo b':=by
 obtain⟨c,j,F,⟨am,L⟩,y⟩:=af.ex;have I:∀a,a∈b'.aA->∀x,x∈a.aH->jK c x/\x.aa0<=T:=by
  refine y.b (λx=>jK c x/\x.aa0<=T) (λx Z _ _ M K=>⟨M.1.join K.1 (adg F),by show max x.aa0 Z.aa0<=T;have:=M.2;have:=K.2;omega⟩) λa e o d=>?_
  obtain⟨i,hi,rfl⟩:=dt.1 e;obtain⟨k,C,rfl⟩:=dt.1 d;have E:b.aA[i]?=c7 (b.aA[i]'(by omega)):=c6 _;obtain⟨_,r2,A⟩:=L i _ _ E (c6 hi);have s:(b.aA[i]'(by omega)).aH[k]?=c7 ((b.aA[i]'(by omega)).aH[k]'(by omega)):=c6 _;have:=A k _ _ s (c6 C);exact⟨this.new,by rw[this.time];exact dd _⟩
 refine⟨c,F,I,?_⟩
 obtain⟨w,J,ht,C⟩:=h.tru;obtain⟨i,hi,rfl⟩:=dt.1 J;have E:=c6 hi;have s:j[i]?=c7 (j[i]'(by omega)):=c6 _;obtain⟨r1,r2,A⟩:=L i _ _ E s;obtain⟨a,e,ab,ag⟩:=y.a _ (fC s);have W:=(y.c a e).1;have al:=(ac.mX _ J).1.1;refine⟨a,e,by rw[ab,r1];exact ht,λk o d=>?_⟩
 have aj:=c9 d;have u:k<n:=by have:=W.1;omega
 have N:b.aA[i].aH[k]?=c7 (b.aA[i].aH[k]'(by omega)):=c6 _;have P:(j[i]'(by omega)).aH[k]?=c7 ((j[i]'(by omega)).aH[k]'(by omega)):=c6 _;have O:=A k _ _ N P;obtain⟨Y,X⟩:=ag k _ o P d;obtain⟨t,U⟩:=C k _ N;have l:=B.oV k u T D (dd _);have ah:=(I a e o (fC d)).2;have H:o.aa0=T:=by rw[O.time] at Y;omega
 have ak:=(B.ok k u).L3 T D (dd _);have ai:=t.ok T t.le (dd _);refine⟨?_,λaa S ae V R=>U aa S ae (by rw[H] at V;have:=t.le;omega) R⟩
 rw[H];refine ai8 B D u t (j4 (X _ l.1 l.2) (O.le _ l.1 (by rw[F.pl,ad];exact l.2) (by omega)))
def Gh.tick(G:Gh)(T d:Int)(bo:List Int)(f:Nat->Int×Int):Gh:=
 {G with tr:=λk=>(G.tr k).ext T d (f k).1 (f k).2,tp:=λa c=>if c<=T then G.tp a c else if a∈bo then((G.tr (bo.idxOf a)).ext T d (f (bo.idxOf a)).1 (f (bo.idxOf a)).2).pl c else -1}
def agw{c:List Int}(f:c.Nodup){a:Nat}{d:Int}(e:c[a]?=c7 d):c.idxOf d=a:=by
 obtain⟨g,rfl⟩:=eE.1 e;exact f.idxOf_getElem a g
def Ghs.tick(h:Ghs n np G T)(l:0<=T){a:Int}(o:T<a)(u:a<=SM){f:Nat->Int×Int}(j:∀k,k<n->(0<=(f k).1/\(f k).1<(np:Int))/\0<=(f k).2/\(f k).2<=a):Ghs n np (G.tick T a bo f) a:=by
 refine⟨λk c=>(h.ok k c).ext l o u (j k c).2,λk c d s x=>?_⟩
 show 0<=((G.tr k).ext T a (f k).1 (f k).2).pl d/\((G.tr k).ext T a (f k).1 (f k).2).pl d<(np:Int)
 by_cases e:d<=T
 .rw[(Tr.abS e).1];exact h.oV k c d s e
 .by_cases w:d<a
  .rw[(Tr.ab8 (by omega) w).1];exact h.oV k c T l (dd _)
  .have t:d=a:=by omega
   rw[t,(Tr.acW o).1];exact(j k c).1
def aan.tick(F:Ghs n np G T)(B:fM n np b)(h:aan m G T bo b){a:Int}(C:T<a)(A:a<=SM)(E:bo.Nodup){f:Nat->Int×Int}
 (H:∀k,k<n->((f k).1=(G.tr k).pl T/\(f k).2=(G.tr k).L3 T)\/∃z,rL m ((G.tr k).pl T) (f k).1 z/\(G.tr k).L3 T+z<=a/\(f k).2=a):aan m (G.tick T a bo f) a bo b:=by
 refine⟨λw c x l=>⟨(h.wok w c x l).1,by have:=(h.wok w c x l).2;omega⟩,?_⟩
 obtain⟨w,c,ht,u⟩:=h.tru;refine⟨w,c,ht,λk x l=>?_⟩
 obtain⟨D,y⟩:=u k x l;have s:=(B.lt c l).1;refine⟨D.tick (F.ok k s) (h.wok w c x (fC l)).1.2 C A (H k s),λd o j t I=>?_⟩
 show(if j<=T then G.tp d j else if d∈bo then((G.tr (bo.idxOf d)).ext T a (f (bo.idxOf d)).1 (f (bo.idxOf d)).2).pl j else -1)=((G.tr k).ext T a (f k).1 (f k).2).pl j
 by_cases e:j<=T
 .rw[if_pos e,(Tr.abS e).1];exact y d o j t e
 .rw[if_neg e,if_pos (fC o),agw E o]
def aan.now(l:Ghs n np G T)(t:fM n np b)(h:aan m G T bo b)(d:0<=T):∃w,w∈b.aA/\w.aw=bo/\∀k x,w.aH[k]?=c7 x->(G.tr k).pl T∈dz x T:=by
 obtain⟨w,c,ht,s⟩:=h.tru;refine⟨w,c,ht,λk x o=>?_⟩
 obtain⟨j,u⟩:=s k x o;have a:=t.lt c o;have e:=l.oV k a.1 T d (dd _);have y:=(l.ok k a.1).L3 T d (dd _);have:=j.ok T j.le (dd _);exact Sq.2 ⟨e.1,by rw[a.2];exact e.2,by omega⟩
end
def agx{b:ak}(j:cP b){i p:Int}(a:0<=mQ b i p):rL b p (other b i p) (mQ b i p)/\0<=other b i p/\other b i p<(b.ai.length:Int):=by
 by_cases h0:0<=i
 rotate_left
 .unfold mQ at a;rw[if_neg h0] at a;omega
 cases d:b.af[i.toNat]? with
 |none=>unfold mQ at a;rw[if_pos h0,d] at a;dsimp only at a;omega
 |some r=>
  have g:=(j.2.2.2 r (fC d)).1;have h:((i.toNat:Nat):Int)=i:=by omega
  unfold mQ at a⊢;unfold other;rw[if_pos h0,d] at a;rw[if_pos h0,if_pos h0,d];dsimp only at a⊢
  by_cases c:p=r.an
  .rw[if_pos c] at a;rw[if_pos c,if_pos c];exact⟨⟨i.toNat,r,false,d,by rw[h],a,by rw[c];rfl,rfl⟩,g.2.2.1,g.2.2.2.1⟩
  .rw[if_neg c] at a;rw[if_neg c,if_neg c]
   by_cases f:p=r.To
   .rw[if_pos f] at a;rw[if_pos f,if_pos f];exact⟨⟨i.toNat,r,true,d,by rw[h],a,by rw[f];rfl,rfl⟩,g.1,g.2.1⟩
   .rw[if_neg f] at a;omega
def ki.same{m c:ak}{l:List Int}(h:ki m l c){i:Int}(h0:0<=i)(hi:i∉l):c.af[i.toNat]?=m.af[i.toNat]? :=by
 have k:=h.len;cases d:m.af[i.toNat]? with
 |none=>
  have:=List.getElem?_eq_none_iff.1 d;exact h8 (by omega)
 |some r=>
  have:=c9 d;have e:=c6 (l:=c.af) (i:=i.toNat) (by omega);have j:((i.toNat:Nat):Int)=i:=by omega
  rcases h.off i.toNat r _ d e with⟨a,_⟩ |⟨_,a⟩
  .rw[e,a]
  .rw[j] at a;exact absurd a hi
def ki.ad2{m c k:ak}{l:List Int}(h:ki m l c)(o:ki m l k):k=c:=by
 have u:=h.len;have w:=o.len;have e:k.af=c.af:=by
  refine List.ext_getElem? λi=>?_
  by_cases hi:i<m.af.length
  .have er:=c6 hi;have t:=c6 (l:=c.af) (i:=i) (by omega);have a:=c6 (l:=k.af) (i:=i) (by omega);rw[t,a];rcases h.off i _ _ er t with⟨a1,s⟩ |⟨a1,s⟩
   .rcases o.off i _ _ er a with⟨d,j⟩ |⟨d,j⟩
    .rw[a1,d]
    .exact absurd j s
   .rcases o.off i _ _ er a with⟨d,j⟩ |⟨d,j⟩
    .exact absurd s j
    .rw[a1,d]
  .rw[h8 (by omega),h8 (by omega)]
 have a:=h.pl.trans o.pl.symm;cases c;cases k
 dsimp only at e a;rw[e,a]
def ki.arc{m a:ak}{l:List Int}(h:ki m l a){i p:Int}(hi:i∉l)(c:0<=mQ m i p):rL a p (other m i p) (mQ m i p):=by
 by_cases h0:0<=i
 rotate_left
 .unfold mQ at c;rw[if_neg h0] at c;omega
 have d:∀b,wT a i b 6 9 12=wT m i b 6 9 12:=λb=>by
  unfold wT;rw[h.same h0 hi]
  by_cases j:cP m/\0<=i
  .rw[if_pos j,if_pos ⟨adg h,h0⟩];cases m.af[i.toNat]? with
   |none=>rfl
   |some r=>dsimp only;unfold wt T.fy jo;rw[h.pl]
  .exact absurd ⟨h.fN,h0⟩ j
 have k:mQ a i p=mQ m i p:=by
  unfold mQ;rw[h.same h0 hi,d,d]
 have o:other a i p=other m i p:=by
  unfold other;rw[h.same h0 hi]
 have:=(agx (adg h) (i:=i) (p:=p) (by rw[k];exact c)).1;rw[k,o] at this;exact this
structure af7 (x:aB) (G:Gh) (L:Nat) (k:Nat) (rd:aS):Prop where
 lks:aaA (λq=>q∈rd.ai) rd.dX rd.dY G.tp x.aa0 (G.lk k) (G.c k)
 nn:∀i,i<G.c k->0<=(G.lk k i).num/\0<=(G.lk k i).t/\(G.lk k i).num<=2*(L:Int)
 num:∃a l row,x.cn[k]?=c7 a/\x.cf[k]?=c7 l/\x.bp[k]?=c7 row/\((G.c k=0/\a= -1/\l= -1)\/(0<G.c k/\a=(G.lk k (G.c k -1)).num/\l=(G.lk k (G.c k -1)).t))/\
  ∀(i:Nat) X,x.aw[i]?=c7 X->∃v,row[i]?=c7 v/\0<=v/\v<=rd.dY/\(v.toNat<G.c k->G.tp X (G.lk k (G.c k -1 -v.toNat)).t∈rd.ai->X∈(G.lk k (G.c k -1 -v.toNat)).bo)
def Rec(c:List aS)(G:Gh)(a:Nat)(r:aT):Prop:=r.agX=(a:Int)/\∃(b:aS) (i:Nat),c[a]?=c7 b/\i<G.c a/\(G.lk a i).num=r.aj6/\(G.lk a i).bo=r.aw/\(G.lk a i).t -b.cR<=r.aa0/\r.aa0<=(G.lk a i).t+b.cR
structure L4 (n np:Nat) (G:Gh) (L:Nat) (p:aE):Prop where
 gs:Ghs n np G p.au.aa0
 t0:0<=p.au.aa0/\p.au.aa0<=2147483648
 now:∀(k:Nat) w,p.au.aN[k]?=c7 w->(G.tr k).pl p.au.aa0=w.abG/\(0<=w.akw->0<=mQ p.ao w.akw w.abG/\(G.tr k).L3 p.au.aa0+mQ p.ao w.akw w.abG<=p.au.aa0+w.ami)/\aas p.aa2 w.akw
 yp:p.au.aw.length=n/\p.au.aw.Nodup
 off:∀X,X∉p.au.aw->∀u,G.tp X u= -1
 jR:∀(k:Nat) rd,p.au.aQ[k]?=c7 rd->lS np rd/\af7 p.au G L k rd
 abA:∀(k:Nat) r a,p.cq[k]?=c7 r->p.au.cn[k]?=c7 a->0<=a->Rec p.au.aQ G k r
 heard:∀r,r∈p.bZ->∃k:Nat,Rec p.au.aQ G k r
 hZ:aan p.ao G p.au.aa0 p.au.aw p.bw
 je:p.bq.aA≠[]->p.aa2.Out=true/\∃bm,ki p.ao p.aa2.af bm/\aan bm G p.au.aa0 p.au.aw p.bq
section
variable {n np:Nat}{G:Gh}{L:Nat}{p:aE}{e:bH}
def af7.more{x:aB}{k:Nat}{rd:aS}(h:af7 x G L k rd):af7 x G (L+1) k rd:=
 ⟨h.lks,λi hi=>by have:=h.nn i hi;exact⟨this.1,this.2.1,by have:=this.2.2;omega⟩,h.num⟩
def L4.more(h:L4 n np G L p):L4 n np G (L+1) p:={h with jR:=λk rd a=>⟨(h.jR k rd a).1,(h.jR k rd a).2.more⟩}
def L4.car(j:dW n np p)(h:L4 n np G L p){k:Nat}{a:Int}(c:p.au.aw[k]?=c7 a):G.tp a p.au.aa0=(G.tr k).pl p.au.aa0:=by
 obtain⟨w,d,ht,l⟩:=h.hZ.tru;have s:k<n:=by have:=c9 c;have:=h.yp.1;omega
 have t:=(j.hZ.mX w d).1.1;obtain⟨o,m⟩:=l k _ (c6 (show k<w.aH.length by omega));exact m a c _ o.le (dd _)
def aaA.ext{k:Int->Prop}{u s T m:Int}{tp l:Int->Int->Int}{lk:Nat->abc}{c:Nat}(h:aaA k u s tp T lk c)(B:T<=m)(j:∀a d,d<=T->l a d=tp a d):aaA k u s l m lk c:=
 ⟨λi hi=>by have:=h.bG i hi;omega,λi a hi A=>by rw[j a _ (h.bG i hi)];exact h.seen i a hi A,h.adj,λa i hi=>by
  obtain⟨t,x,w,y⟩:=h.win a i hi;exact⟨t,x,w,λo=>y (by rw[j a _ (h.bG t (by omega))] at o;exact o)⟩⟩
def aar(p:aE)(G:Gh)(c:Int)(a:Nat):Int×Int:=match p.au.aN[a]? with
 |some b=>if ¬b.akw<0/\b.ami -c<=0 then(other p.ao b.akw b.abG,p.au.aa0+c) else((G.tr a).pl p.au.aa0,(G.tr a).L3 p.au.aa0)
 |none=>((G.tr a).pl p.au.aa0,(G.tr a).L3 p.au.aa0)
def aas.out{k:bA}(a:ff k)(c:k.Out=true){r:Int}(h:aas k r):r∉k.af:=λd=>by
 obtain⟨i,hi,rfl⟩:=dt.1 d;have j:=a.2.1;have e:=c6 (l:=k.aa2) (i:=i) (by omega);have o:=h i _ (c6 hi) e;have m:=a.2.2.2 c _ (fC e);omega
def asG(k:dW n np p)(f:L4 n np G L p)(an:fw p.au){c:Int}(h0:0<c)(w:p.au.aa0+c<=2147483648):L4 n np (G.tick p.au.aa0 (p.au.aa0+c) p.au.aw (aar p G c)) L {p with au:=x7 p.au c}:=by
 have D:=f.t0;have S:=k.fN;have av:=k.gk;have H:∀b,b<n->∃d,p.au.aN[b]?=c7 d/\sq p.ao d:=λb g=>by
  have K:b<p.au.aN.length:=by rw[k.iz];exact g
  exact⟨_,c6 K,by rw[<-S];exact an.2.2.2.2.2.2.2.2.2 _ (dv K)⟩
 have ab:∀b,b<n->0<=(G.tr b).L3 p.au.aa0/\(G.tr b).L3 p.au.aa0<=p.au.aa0:=λb g=>(f.gs.ok b g).L3 _ D.1 (dd _)
 have ah:∀b,b<n->(0<=(aar p G c b).1/\(aar p G c b).1<(np:Int))/\0<=(aar p G c b).2/\(aar p G c b).2<=p.au.aa0+c:=λb g=>by
  obtain⟨d,h,U⟩:=H b g;obtain⟨s,t,q⟩:=f.now b d h;unfold aar;rw[h];dsimp only;have r:=f.gs.oV b g _ D.1 (dd _);have ap:=ab b g
  split
  .rename_i aq;have:=(agx k.gq (t (by omega)).1).2;exact⟨by dsimp only;omega,by dsimp only;omega,dd _⟩
  .exact⟨r,ap.1,by dsimp only;omega⟩
 have J:∀b,b<n->(((aar p G c b).1=(G.tr b).pl p.au.aa0/\(aar p G c b).2=(G.tr b).L3 p.au.aa0)\/∃d,p.au.aN[b]?=c7 d/\0<=d.akw/\0<=mQ p.ao d.akw d.abG/\(aar p G c b).1=other p.ao d.akw d.abG/\(G.tr b).pl p.au.aa0=d.abG/\(G.tr b).L3 p.au.aa0+mQ p.ao d.akw d.abG<=p.au.aa0+c/\(aar p G c b).2=p.au.aa0+c/\aas p.aa2 d.akw):=λb g=>by
  obtain⟨d,h,U⟩:=H b g;obtain⟨s,t,q⟩:=f.now b d h;unfold aar;rw[h];dsimp only
  split
  .rename_i aq;have:=t (by omega);exact .inr ⟨d,rfl,by omega,this.1,rfl,s,by omega,rfl,q⟩
  .exact .inl ⟨rfl,rfl⟩
 have x:p.au.aa0<p.au.aa0+c:=by omega
 have N:∀j m,m<=p.au.aa0->(G.tick p.au.aa0 (p.au.aa0+c) p.au.aw (aar p G c)).tp j m=G.tp j m:=λj m al=>if_pos al
 refine⟨f.gs.tick D.1 x w ah,⟨by show 0<=p.au.aa0+c;omega,w⟩,λb X V=>?_,f.yp,λj u m=>?_,λb I ak=>?_,f.abA,f.heard,?_,λY=>?_⟩
 .have o:(p.au.aN.map (uf p.au.ao c))[b]?=c7 X:=V;rw[ey] at o;cases h:p.au.aN[b]? with
  |none=>rw[h] at o;cases o
  |some d=>
   rw[h] at o;injection o with o
   subst o;have g:b<n:=by have:=c9 h;rw[k.iz] at this;exact this
   obtain⟨s,t,q⟩:=f.now b d h;have P:=(Tr.acW (tr:=G.tr b) (p:=(aar p G c b).1) (a:=(aar p G c b).2) x);show((G.tr b).ext p.au.aa0 (p.au.aa0+c) (aar p G c b).1 (aar p G c b).2).pl (p.au.aa0+c)=_/\(_->_/\((G.tr b).ext p.au.aa0 (p.au.aa0+c) (aar p G c b).1 (aar p G c b).2).L3 (p.au.aa0+c)+_<=p.au.aa0+c+_)/\_
   rw[P.1,P.2,S];unfold aar uf;rw[h];dsimp only
   by_cases r:d.akw<0
   .rw[if_neg (by omega),if_pos r];exact⟨s,λl=>absurd l (by omega),q⟩
   .rw[if_neg r]
    by_cases A:d.ami -c<=0
    .rw[if_pos ⟨r,A⟩,if_pos A];refine⟨rfl,λl=>absurd l (show ¬(0:Int)<=-1 by decide),λi z O _=>?_⟩
     have:=(k.jY.mem (fC O)).1;have ad:p.aa2.af[i]?=c7 (-1):=O;have:=(k.jY.mem (fC ad)).1;omega
    .rw[if_neg (λl=>A l.2),if_neg A];have:=t (by omega);exact⟨s,λ_=>⟨this.1,by dsimp only;omega⟩,q⟩
 .show(if m<=p.au.aa0 then G.tp j m else if j∈p.au.aw then _ else -1)= -1
  rw[if_neg (show j∉p.au.aw from u)]
  split
  .exact f.off j u m
  .rfl
 .obtain⟨Z,B⟩:=f.jR b I ak;refine⟨Z,aaA.ext B.lks (by show _<=p.au.aa0+c;omega) N,B.nn,?_⟩
  obtain⟨a,ar,row,T,ao,ac,ae,ag⟩:=B.num;refine⟨a,ar,row,T,ao,ac,ae,λi j u=>?_⟩
  obtain⟨v,af,aj,aa,am⟩:=ag i j u;refine⟨v,af,aj,aa,λQ E=>am Q ?_⟩
  have aw:v.toNat<G.c b:=Q;have M:(G.tick p.au.aa0 (p.au.aa0+c) p.au.aw (aar p G c)).tp j (G.lk b (G.c b -1 -v.toNat)).t∈I.ai:=E;have y:=B.lks.bG (G.c b -1 -v.toNat) (by omega);rw[N j _ y] at M;exact M
 .refine f.hZ.tick f.gs k.hZ x w f.yp.2 λb g=>?_
  rcases J b g with l |⟨d,h,W,F,C,w4,w5,w6,w7⟩
  .exact .inl l
  .exact .inr ⟨_,by rw[C,w4];exact(agx k.gq F).1,w5,w6⟩
 .obtain⟨y,ai,R,E⟩:=f.je Y;refine⟨y,ai,R,E.tick f.gs k.je x w f.yp.2 λb g=>?_⟩
  rcases J b g with l |⟨d,h,W,F,C,w4,w5,w6,w7⟩
  .exact .inl l
  .exact .inr ⟨_,by rw[C,w4];exact R.arc (w7.out k.key y) F,w5,w6⟩
def alj(l:dW n np p)(a:L4 n np G L p){f r i:Int}{d:bC}(x:0<=f)(z:0<=i)(k:p.au.aN[f.toNat]?=c7 d)(m:0<=mQ p.au.ao r d.abG)(s:aas p.aa2 r):L4 n np G L {p with au:={p.au with aN:=p.au.aN.set f.toNat ⟨d.abG,r,mQ p.au.ao r d.abG+i⟩}}:=by
 refine⟨a.gs,a.t0,λc j o=>?_,a.yp,a.off,λc g h=>⟨(a.jR c g h).1,(a.jR c g h).2.lks,(a.jR c g h).2.nn,(a.jR c g h).2.num⟩,a.abA,a.heard,a.hZ,a.je⟩
 have b:(p.au.aN.set f.toNat ⟨d.abG,r,mQ p.au.ao r d.abG+i⟩)[c]?=c7 j:=o;rw[fe] at b
 split at b
 .rename_i e
  split at b
  .injection b with b
   subst b;subst e;obtain⟨u,y,v⟩:=a.now _ d k;have q:f.toNat<n:=by have:=c9 k;rw[l.iz] at this;exact this
   have w:=(a.gs.ok _ q).L3 _ a.t0.1 (dd _);have t:=l.fN;rw[t] at m⊢;exact⟨u,λ_=>⟨m,by dsimp only;omega⟩,s⟩
  .cases b
 .exact a.now c j b
end
section
variable {n np:Nat}{G:Gh}{L:Nat}{p:aE}{e:bH}
def Gh.look(G:Gh)(k:Nat)(x:abc):Gh:={G with lk:=λa i=>if a=k/\i=G.c k then x else G.lk a i,c:=λa=>if a=k then G.c k+1 else G.c a}
def Gh.ae5{G:Gh}{k:Nat}{x:abc}{a i:Nat}(h:a≠k\/i≠G.c k):(G.look k x).lk a i=G.lk a i:=if_neg (by omega)
def Gh.acH{G:Gh}{k:Nat}{x:abc}:(G.look k x).lk k (G.c k)=x:=if_pos ⟨rfl,rfl⟩
def Gh.abU{G:Gh}{k:Nat}{x:abc}:(G.look k x).c k=G.c k+1:=if_pos rfl
def Gh.agk{G:Gh}{k:Nat}{x:abc}{a:Nat}(h:a≠k):(G.look k x).c a=G.c a:=if_neg h
def Rec.look{rs:List aS}{k a:Nat}{x:abc}{r:aT}(h:Rec rs G a r):Rec rs (G.look k x) a r:=by
 obtain⟨l,rd,i,d,s,j,o,c,m⟩:=h;have e:(G.look k x).lk a i=G.lk a i:=Gh.ae5 (by
  by_cases e:a=k
  .subst e;exact .inr (by omega)
  .exact .inl e)
 refine⟨l,rd,i,d,?_,by rw[e];exact j,by rw[e];exact o,by rw[e];exact c,by rw[e];exact m⟩
 by_cases e:a=k
 .subst e;rw[Gh.abU];omega
 .rw[Gh.agk e];exact s
def arU(am:dW n np p)(d:L4 n np G L p)(a8:L<=1000){a:Nat}{aJ:Int}{h:aS}{al:aB}{r:aT}(y:cf p.au a aJ h al r):∃ap,L4 n np ap (L+1) {p with au:=al,cq:=p.cq.set a r}:=by
 obtain⟨row,P,af,x,ak,Z,Q,ae,O,aQ,aH,bc,a0,ax⟩:=y.ex;obtain⟨ag,s⟩:=d.jR a h y.eZ;obtain⟨a9,a4,a5,F,E,A,an,aj⟩:=s.num;rw[Q] at F;injection F with F;subst F
 rw[ae] at E;injection E with E;subst E
 rw[Z] at A;injection A with A;subst A
 have aq:=d.t0;have a6:=y.QX;have H:r.aj6=x+(if 0<=ak/\h.dX<p.au.aa0 -ak then 2 else 1)/\-1<=x/\x<=2*(L:Int):=by
  have ar: -1<=x/\x<=2*(L:Int):=by
   rcases an with⟨_,q,_⟩ |⟨ba,q,_⟩
   .omega
   .have:=s.nn (G.c a -1) (by omega);omega
  refine⟨?_,ar⟩
  rw[aQ]
  split <;> exact hU (by omega) (by omega)
 obtain⟨H,bb⟩:=H;have aI:0<=r.aj6/\r.aj6<=2*(L:Int)+2:=by rw[H];split <;> omega
 have S:∀c,c∈r.aw↔c∈af:=λc=>by rw[a0];exact(uK af).mem_iff
 let u:abc:=⟨p.au.aa0,r.aj6,r.aw⟩
 have R:∀{i:Nat} {j:bC} {c:Int},p.au.aN[i]?=c7 j->p.au.aw[i]?=c7 c->G.tp c p.au.aa0=j.abG:=λ{i j c} k g=>by rw[d.car am g,(d.now i j k).1]
 have aa:∀{i:Nat} {c:Int},p.au.aw[i]?=c7 c->∃j,p.au.aN[i]?=c7 j:=λ{i c} g=>by
  have Z:=c9 g;have Q:=d.yp.1;exact⟨_,c6 (show i<p.au.aN.length by rw[am.iz];omega)⟩
 have aN:=ag.2.2.2.1;have aY:aaA (λq=>q∈h.ai) h.dX h.dY G.tp p.au.aa0 (λi=>if i=G.c a then u else G.lk a i) (G.c a+1):=by
  refine s.lks.look rfl (λc g=>?_) (λT aE aK=>?_) (λc aE=>?_)
  .obtain⟨i,j,k,w,z⟩:=O.tag c ((S c).1 g);rw[R k w];exact z
  .rcases an with⟨q,_⟩ |⟨_,aC,ql⟩
   .omega
   .have bd:=s.nn (G.c a -1) (by omega);have ad:=s.lks.bG (G.c a -1) (by omega);show(r.aj6=T.num+1/\p.au.aa0 -T.t<=h.dX)\/r.aj6=T.num+2
    rw[aK, <-aC, <-ql,H]
    split
    .exact .inr rfl
    .exact .inl ⟨rfl,by omega⟩
  .by_cases g:c∈p.au.aw
   .obtain⟨i,t,rfl⟩:=dt.1 g;have w:=c6 t;obtain⟨j,k⟩:=aa w;obtain⟨v,W,V,X,K⟩:=O.Hg i j _ k w;obtain⟨aD,l,aZ,a3,U⟩:=aj i _ w;rw[V] at l;injection l with l;subst l
    rcases K with⟨_,z⟩ |⟨J,ai⟩
    .refine⟨G.c a,by omega,gx _,λf=>?_⟩
     rw[if_pos rfl] at f⊢;have m:G.tp p.au.aw[i] p.au.aa0∈h.ai:=f;rw[R k w] at m;exact(S _).2 (z m)
    .refine⟨G.c a -1 -v.toNat,by omega,by omega,λf=>?_⟩
     rw[if_neg (by omega)] at f⊢;exact U (by omega) f
   .refine⟨G.c a,by omega,gx _,λf=>?_⟩
    rw[if_pos rfl] at f;have m:G.tp c p.au.aa0∈h.ai:=f;rw[d.off c g] at m;have:=(ag.2.1.mem m).1;omega
 have aO:(G.look a u).lk a=λi=>if i=G.c a then u else G.lk a i:=by
  funext i
  show(if a=a/\i=G.c a then u else G.lk a i)=_
  by_cases e:i=G.c a
  .rw[if_pos ⟨rfl,e⟩,if_pos e]
  .rw[if_neg (λaL=>e aL.2),if_neg e]
 refine⟨G.look a u,?_⟩
 subst ax;refine⟨⟨d.gs.ok,d.gs.oV⟩,d.t0,d.now,d.yp,d.off,λb ab ah=>?_,λb B D I a2 h0=>?_,λB I=>?_,⟨d.hZ.wok,d.hZ.tru⟩,λao=>?_⟩
 .obtain⟨aU,Y⟩:=d.jR b ab ah;refine⟨aU,?_⟩
  by_cases e:b=a
  .subst e;have C:p.au.aQ[b]?=c7 ab:=ah;rw[y.eZ] at C;injection C with C
   subst C;refine⟨by rw[aO,Gh.abU];exact aY,λi t=>?_,?_⟩
   .rw[Gh.abU] at t
    by_cases e:i=G.c b
    .subst e;rw[Gh.acH];exact⟨aI.1,aq.1,by show r.aj6<=_;omega⟩
    .rw[Gh.ae5 (.inr e)];have:=s.nn i (by omega);exact⟨this.1,this.2.1,by omega⟩
   .have aG:=c9 Q;have a1:=c9 ae;have aF:=c9 Z;refine⟨r.aj6,p.au.aa0,P,by show(p.au.cn.set b r.aj6)[b]?=_;rw[ev aG],by show(p.au.cf.set b _)[b]?=_;rw[ev a1],by show(p.au.bp.set b P)[b]?=_;rw[ev aF],.inr ⟨by rw[Gh.abU];omega,?_,?_⟩,λi c g=>?_⟩
    .rw[Gh.abU,hQ,Gh.acH]
    .rw[Gh.abU,hQ,Gh.acH]
    .have g:p.au.aw[i]?=c7 c:=g;obtain⟨j,k⟩:=aa g;obtain⟨v,W,V,X,K⟩:=O.Hg i j _ k g;obtain⟨aD,l,aZ,a3,U⟩:=aj i _ g;rw[V] at l;injection l with l;subst l
     rw[Gh.abU];rcases K with⟨J,z⟩ |⟨J,ai⟩
     .subst J;refine⟨0,X,dd _,aN.1,λ_ f=>?_⟩
      have M:G.c b+1 -1 - (0:Int).toNat=G.c b:=by simp
      rw[M,Gh.acH] at f⊢;have m:G.tp c p.au.aa0∈h.ai:=f;rw[R k g] at m;exact(S _).2 (z m)
     .refine⟨W,X,by omega,ai,λa7 f=>?_⟩
      have M:G.c b+1 -1 -W.toNat=G.c b -1 -v.toNat:=by omega
      rw[M,Gh.ae5 (.inr (by omega))] at f⊢;exact U (by omega) f
  .have N:(G.look a u).lk b=G.lk b:=by funext i;exact Gh.ae5 (.inl e)
   obtain⟨D,aA,av,aX,ay,aP,aV,aR⟩:=Y.num;refine⟨by rw[N,Gh.agk e];exact Y.lks,λi t=>?_,?_⟩
   .rw[N];rw[Gh.agk e] at t;have:=Y.nn i t;exact⟨this.1,this.2.1,by omega⟩
   .rw[N,Gh.agk e];exact⟨D,aA,av,by show(p.au.cn.set a r.aj6)[b]?=_;rw[ej (j5 e)];exact aX,by show(p.au.cf.set a _)[b]?=_;rw[ej (j5 e)];exact ay,by show(p.au.bp.set a P)[b]?=_;rw[ej (j5 e)];exact aP,aV,aR⟩
 .have o:(p.cq.set a r)[b]?=c7 B:=I;have ac:(p.au.cn.set a r.aj6)[b]?=c7 D:=a2
  by_cases e:b=a
  .subst e;have lj:=c9 o;rw[e0] at lj;rw[ev lj] at o;injection o with o
   subst o;refine⟨aH,h,G.c b,y.eZ,by rw[Gh.abU];omega,?_,?_,?_,?_⟩
   .rw[Gh.acH]
   .rw[Gh.acH]
   .rw[Gh.acH];show p.au.aa0 -h.cR<=r.aa0;omega
   .rw[Gh.acH];show r.aa0<=p.au.aa0+h.cR;omega
  .rw[ej (j5 e)] at o ac;exact(d.abA b B D o ac h0).look
 .obtain⟨b,az⟩:=d.heard B I;exact⟨b,az.look⟩
 .obtain⟨ad,aw,aM,f⟩:=d.je ao;exact⟨ad,aw,aM,f.wok,f.tru⟩
def aq5{c:List aS}{a:Nat}{r:aT}(f:∃b:Nat,Rec c G b r)(g:r.agX=(a:Int)):Rec c G a r:=by
 obtain⟨b,d⟩:=f;have:=d.1;have e:b=a:=by omega
 rw[<-e];exact d
def asF(w:dW n np p)(d:L4 n np G L p)(aZ:L<=1000){c:Nat}{h Z:aS}{r:aT}{num:Int}{H:List aT}{ar:cZ}{b s:aL}(aN:p.au.cn[c]?=c7 num)(aB:0<=num)(aK:p.cq[c]?=c7 r)(S:p.au.aQ[c]?=c7 Z)(U:p.au.aQ[r.agX.toNat]?=c7 h)(aJ:∃al,H=(p.bZ++[r]).drop al)(l:fv p.ao p.aa2.af p.au.aa0 h Z r H (c:Int) p.bw p.bq b s):
 L4 n np G L {p with bZ:=H,cW:=ar,bw:=b,bq:=s}:=by
 have Y:=d.abA c r num aK aN aB;have ay:h=Z:=by
  have e:=Y.1;have aG:r.agX.toNat=c:=by omega
  rw[aG,S] at U;injection U with U
  exact U.symm
 subst ay;have ai:∀g,g∈H->∃a:Nat,Rec p.au.aQ G a g:=λg aw=>by
  obtain⟨al,rfl⟩:=aJ;rcases ea.1 (gy aw) with v |v
  .exact d.heard g v
  .rw[dT] at v;rw[v];exact⟨c,Y⟩
 obtain⟨ak,C⟩:=d.jR c h S;have aQ:=d.t0;have am:∀{o:dS},DS r h o->∃Lk,o.an<=Lk/\Lk<=min o.To p.au.aa0/\G.tp o.Tag Lk∈h.ai:=λ{o} z=>by
  obtain⟨aI,a4,a2⟩:=z;obtain⟨_,D,i,m,J,aq,ae,r6,r7⟩:=Y;rw[S] at m;injection m with m;subst m
  have a6:=C.nn i J;have Q:=C.lks.bG i J;exact⟨(G.lk c i).t,by omega,by omega,C.lks.seen i _ J (by rw[ae];exact aI)⟩
 have ap:∀{t:Int} {q:dC},nc H (c:Int) t h q->∀s s',q.an<=s->s'<=min q.To p.au.aa0->s<=s'->(∀ad,s<=ad->ad<=s'->G.tp t ad∈h.ai)->s' -s<=(h.dY+1)*h.dX:=λ{t q} k s s' a5 a3 a7 aH=>by
  obtain⟨run,ar,a0,⟨au,aC⟩,aj,aA,aX,aV⟩:=k;have aR:=c9 aj;have V:∀a,a<run.length->∃i g,run[a]?=c7 g/\i<G.c c/\(G.lk c i).num=g.aj6/\(G.lk c i).bo=g.aw/\(G.lk c i).t -h.cR<=g.aa0/\g.aa0<=(G.lk c i).t+h.cR:=λa f=>by
   have an:=au _ (dv f);obtain⟨_,D,i,m,J,aq,ae,r6,r7⟩:=aq5 (ai _ an.1) an.2.1;rw[S] at m;injection m with m;subst m
   exact⟨i,_,c6 f,J,aq,ae,r6,r7⟩
  let B:Nat->Nat:=λa=>if f:a<run.length then(V a f).choose else 0
  have F:∀a (f:a<run.length),∃g,run[a]?=c7 g/\B a<G.c c/\(G.lk c (B a)).num=g.aj6/\(G.lk c (B a)).bo=g.aw/\(G.lk c (B a)).t -h.cR<=g.aa0/\g.aa0<=(G.lk c (B a)).t+h.cR:=λa f=>by
   have e:B a=(V a f).choose:=dif_pos f;rw[e];exact(V a f).choose_spec
  refine C.lks.agP (X:=t) (by have:=ak.2.2.1;omega) ak.2.2.2.1.1 B (run.length -1) (λa f=>?_) (λa f=>?_) (λa f=>?_) (s:=s) (s':=s') ?_ ?_ aH
  .obtain⟨_,_,v,_⟩:=F a (by omega);exact v
  .obtain⟨N,j,T,P,_⟩:=F a (by omega);obtain⟨m,az,aM,ax,_⟩:=F (a+1) (by omega);have v:=aC a N m j az;have aD:=C.nn _ T;have aU:=C.nn _ aM;rw[P,ax,v];rw[P] at aD;exact hU (by omega) (by omega)
  .obtain⟨N,j,T,P,ac,_⟩:=F a (by omega);rw[ac];exact(au N (fC j)).2.2
  .obtain⟨N,j,T,P,ac,aF,aO⟩:=F 0 (by omega);rw[aj] at j;injection j with j;subst j
   omega
  .obtain⟨N,j,T,P,ac,aF,aO⟩:=F (run.length -1) (by omega);rw[aA] at j;injection j with j;subst j
   omega
 have ao:fM n np b/\fM n np s/\aan p.ao G p.au.aa0 p.au.aw b/\(s.aA≠[]->p.aa2.Out=true/\∃E,ki p.ao p.aa2.af E/\aan E G p.au.aa0 p.au.aw s):=by
  have R:∀{b s:aL},fv p.ao p.aa2.af p.au.aa0 h h r H (c:Int) p.bw p.bq b s->fM n np b/\fM n np s:=λ{b s} l=>by
   obtain⟨⟨aP,aY⟩,av,a1⟩:=l.shape w.gk w.hZ w.bne w.je;exact⟨aP,av⟩
  induction l with
  |nil=>exact⟨w.hZ,w.je,d.hZ,d.je⟩
  |Ls o l z k y=>
   obtain⟨M,K,A,x⟩:=y;obtain⟨Lk,ag,aa,W⟩:=am z;have:=R (l.Ls o z k);exact⟨this.1,this.2,A.Ls d.gs M ag aa (by omega) W k,x⟩
  |Lt o E l z I u k y=>
   obtain⟨M,K,A,x⟩:=y;obtain⟨Lk,ag,aa,W⟩:=am z;have:=R (l.Lt o E z I u k);obtain⟨Q,aE,af,ah⟩:=x I;have e:=af.ad2 u;subst e;exact⟨this.1,this.2,A,λ_=>⟨Q,_,u,ah.Ls d.gs K ag aa (by omega) W k⟩⟩
  |abs t q l ab O k y=>
   obtain⟨M,K,A,x⟩:=y;have:=R (l.abs t q ab O k);exact⟨this.1,this.2,A.abs d.gs M w.gk (by omega) (ap O) k,x⟩
  |Lu t q E l ab O I u k y=>
   obtain⟨M,K,A,x⟩:=y;have:=R (l.Lu t q E ab O I u k);obtain⟨Q,aE,af,ah⟩:=x I;have e:=af.ad2 u;subst e;exact⟨this.1,this.2,A,λ_=>⟨Q,_,u,ah.abs d.gs K (by rw[u.pl];exact w.gk) (by omega) (ap O) k⟩⟩
 exact⟨d.gs,d.t0,d.now,d.yp,d.off,λa D f=>⟨(d.jR a D f).1,(d.jR a D f).2.lks,(d.jR a D f).2.nn,(d.jR a D f).2.num⟩,d.abA,ai,ao.2.2.1,ao.2.2.2⟩
end
section
variable {n np:Nat}{G:Gh}{L:Nat}{p:aE}{e:bH}
def L4.alter(h:L4 n np G L p){q:aE}(a:q.au=p.au)(c:q.ao=p.ao)(d:q.aa2=p.aa2)(m:q.cq=p.cq)(u:q.bZ=p.bZ)(k:q.bw=p.bw)(t:q.bq=p.bq):L4 n np G L q:=by
 obtain⟨a1,l,w,j,y,A,o,a8,s,x⟩:=h;exact⟨by rw[a];exact a1,by rw[a];exact l,by rw[a,c,d];exact w,by rw[a];exact j,by rw[a];exact y,by rw[a];exact A,by rw[a,m];exact o,by rw[a,u];exact a8,by rw[a,c,k];exact s,by rw[a,c,d,t];exact x⟩
def asv{f:List Int}{i b:Int}(d:0<=i/\i<(f.length:Int))(c:0<=b/\b<(f.length:Int)){j:Int}:j∈gL i b f↔j∈f:=by
 constructor
 .intro h;obtain⟨a,g,rfl⟩:=dt.1 h;have e:=c6 g;rw[acL d c] at e
  split at e
  .exact fC e
  .split at e
   .exact fC e
   .exact fC e
 .intro h;obtain⟨a,g,rfl⟩:=dt.1 h;have ek:=c6 g
  by_cases l:(a:Int)=i
  .have:=acL d c b.toNat;rw[if_pos (by omega),show i.toNat=a by omega,ek] at this;exact fC this
  .by_cases m:(a:Int)=b
   .have:=acL d c i.toNat
    by_cases k:((i.toNat:Nat):Int)=b
    .rw[if_pos k,show i.toNat=a by omega,ek] at this;exact fC this
    .rw[if_neg k,if_pos (by omega),show b.toNat=a by omega,ek] at this;exact fC this
   .have:=acL d c a;rw[if_neg m,if_neg l,ek] at this;exact fC this
def arK{g:List Int}:g.Nodup↔∀(i a:Nat) c,g[i]?=c7 c->g[a]?=c7 c->i=a:=by
 constructor
 .intro b i a c f d;rw[<-agw b f,agw b d]
 .intro b;unfold List.Nodup;rw[hq];intro i a f d j h;have:=b i a _ (c6 f) (by rw[c6 d,h]);omega
def aql{f:List Int}{i k:Int}(r:0<=i/\i<(f.length:Int))(o:0<=k/\k<(f.length:Int))(l:f.Nodup):(gL i k f).Nodup:=by
 rw[arK] at l⊢;intro s b j c a;rw[acL r o] at c a;have d:∀h g:Nat,f[h]?=c7 j->f[g]?=c7 j->h=g:=λh g q m=>l h g j q m
 split at c
 .split at a
  .omega
  .split at a
   .have:=d _ _ c a;omega
   .have:=d _ _ c a;omega
 .split at c
  .split at a
   .have:=d _ _ c a;omega
   .split at a
    .omega
    .have:=d _ _ c a;omega
  .split at a
   .have:=d _ _ c a;omega
   .split at a
    .have:=d _ _ c a;omega
    .exact d _ _ c a
def aqT(g:dW n np p)(c:L4 n np G L p){i a:Int}{x l:bC}{b k:aL}(ah:0<=i/\i<(p.au.aN.length:Int))(ai:0<=a/\a<(p.au.aN.length:Int))(V:p.au.aN[i.toNat]?=c7 x)(K:p.au.aN[a.toNat]?=c7 l)(O:x.abG=l.abG)
 (y:AY p.ao i a p.au.aa0 p.au.aN.length p.ao.ai.length p.bw b) (Z:(p.bq.aA=[]/\k=p.bq)\/∃t,p.bq.aA≠[]/\ki p.ao p.aa2.af t/\AY t i a p.au.aa0 p.au.aN.length p.ao.ai.length p.bq k):
 L4 n np G L {p with au:={p.au with aw:=gL i a p.au.aw,bp:=p.au.bp.map (gL i a)},bw:=b,bq:=k}:=by
 have S:=c.yp.1;have B:=g.iz;have r:0<=i/\i<(p.au.aw.length:Int):=by omega
 have u:0<=a/\a<(p.au.aw.length:Int):=by omega
 have F:(G.tr i.toNat).pl p.au.aa0=(G.tr a.toNat).pl p.au.aa0:=by rw[(c.now _ x V).1,(c.now _ l K).1,O]
 rw[B,g.gk] at y;refine⟨c.gs,c.t0,c.now,⟨by show(gL i a p.au.aw).length=n;rw[akY];exact S,aql r u c.yp.2⟩,λf o aa=>c.off f (λX=>o ((asv r u).2 X)) aa,λz Q Y=>?_,c.abA,c.heard,c.hZ.Np c.gs g.hZ c.t0 F y,λM=>?_⟩
 .obtain⟨N,w⟩:=c.jR z Q Y;refine⟨N,w.lks,w.nn,?_⟩
  obtain⟨P,ae,row,J,ab,T,ad,j⟩:=w.num;refine⟨P,ae,gL i a row,J,ab,by show(p.au.bp.map (gL i a))[z]?=_;rw[ey,T];rfl,ad,λq f o=>?_⟩
  have d:(gL i a p.au.aw)[q]?=c7 f:=o;have A:∀h:Nat,h<n->h<row.length:=λh aj=>by
   obtain⟨v,U,_⟩:=j h _ (c6 (show h<p.au.aw.length by omega));exact c9 U
  have af:0<=i/\i<(row.length:Int):=by have:=A i.toNat (by omega);omega
  have R:0<=a/\a<(row.length:Int):=by have:=A a.toNat (by omega);omega
  rw[acL r u] at d;rw[acL af R]
  by_cases C:(q:Int)=a
  .rw[if_pos C] at d⊢;exact j _ f d
  .rw[if_neg C] at d⊢
   by_cases D:(q:Int)=i
   .rw[if_pos D] at d⊢;exact j _ f d
   .rw[if_neg D] at d⊢;exact j _ f d
 .have I:k.aA≠[]:=M;rcases Z with⟨s,m⟩ |⟨t,s,m,E⟩
  .rw[m] at I;exact absurd s I
  .rw[B,g.gk] at E;obtain⟨W,ag,H,ac⟩:=c.je s;have e:=H.ad2 m;subst e;exact⟨W,_,H,ac.Np c.gs g.je c.t0 F E⟩
def ahz{a:bA}{f:Int}(g:a.aa2=p.aa2.aa2.set f.toNat 2)(j:a.af=p.aa2.af){c:bC}(h:aas p.aa2 c.akw)(k:∀r,p.aa2.af[f.toNat]?=c7 r->c.akw≠r):aas a c.akw:=λi z b d=>by
 rw[j] at b;rw[g,fe] at d
 split at d
 .rename_i e;subst e;exact absurd rfl (k _ b)
 .exact h i z b d
def arz(b:L4 n np G L p)(c:p.aa2.Out=false):p.bq.aA=[]:=Classical.byContradiction λa=>by
 have:=(b.je a).1;rw[c] at this;cases this
def asx(c:dW n np p){b:bA}(d:b.af=p.aa2.af):aas b (-1):=λi z a _=>by
 rw[d] at a;have:=(c.jY.mem (fC a)).1;omega
def ara{a:ak}{c i q:Int}(f:cP a)(g:cP (cY a c))(h:i≠c)(j:0<=c):mQ (cY a c) i q=mQ a i q:=by
 unfold mQ
 by_cases h0:0<=i
 rotate_left
 .rw[if_neg h0,if_neg h0]
 rw[if_pos h0,if_pos h0];have d:(cY a c).af[i.toNat]?=a.af[i.toNat]? :=by
  unfold cY;dsimp only
  split
  .rw[ej (by omega)]
  .rfl
 have ew:∀b,wT (cY a c) i b 6 9 12=wT a i b 6 9 12:=λb=>by
  unfold wT;rw[if_pos ⟨g,h0⟩,if_pos ⟨f,h0⟩,d]
  rfl
 rw[d,ew,ew]
def ajN(f:dW n np p)(a:L4 n np G L p){c:Int}(F:0<=c){t:aE}(C:oP {p with au:={p.au with ao:=cY p.au.ao c,aN:=p.au.aN.map (n8 c)}} c t):L4 n np G L t:=by
 obtain⟨b,E,fl,K,z,rfl,_,_,l,I,H,_⟩:=C.ex;have l:cP (cY p.ao c):=l;refine⟨a.gs,a.t0,λm x v=>?_,a.yp,a.off,λi j k=>⟨(a.jR i j k).1,(a.jR i j k).2.lks,(a.jR i j k).2.nn,(a.jR i j k).2.num⟩,a.abA,a.heard,a.hZ.renew a.gs f.hZ a.t0.1 (m':=cY p.ao c) f.gk I,λw=>?_⟩
 .have d:(p.au.aN.map (n8 c))[m]?=c7 x:=v;rw[ey] at d;cases q:p.au.aN[m]? with
  |none=>rw[q] at d;cases d
  |some g=>
   rw[q] at d;injection d with d
   subst d;obtain⟨s,J,y⟩:=a.now m g q;unfold n8
   by_cases e:g.akw=c
   .rw[if_pos e];exact⟨s,λr=>absurd r (show ¬(0:Int)<=-1 by decide),asx f rfl⟩
   .rw[if_neg e];refine⟨s,λr=>?_,y⟩
    show 0<=mQ (cY p.ao c) g.akw g.abG/\_+mQ (cY p.ao c) g.akw g.abG<=_
    rw[ara f.gq l e F];exact J r
 .have u:E.aA≠[]:=w;rcases H with⟨o,h⟩ |⟨o,h,D⟩
  .rw[h] at u;exact absurd o u
  .obtain⟨A,M,N,B⟩:=a.je o;exact⟨A,z,h,B.renew a.gs f.je a.t0.1 (by rw[h.pl];exact f.gk) D⟩
def gC.gh(c:dW n np p)(h:L4 n np G L p)(F:L<=1000)(J:fw p.au){K:aE}(E:gC p e K):∃P,L4 n np P (L+1) K:=by
 cases E with
 |wait _ _ h0 B=>
  by_cases N:e.A=0
  .rw[N,WV J];exact⟨G,L4.more (h.alter rfl rfl rfl rfl rfl rfl rfl)⟩
  .exact⟨_,(asG c h J (by omega) B).more⟩
 |walk w _ _ m D a _ X V=>exact⟨G,(alj c h m D.1 a X V).more⟩
 |look k rd ac r _ _ j=>exact arU c h F j
 |JE k rs rd r num E x b s _ _ l Z d _ eZ T W _ _ D=>exact⟨G,(asF c h F l Z d eZ T W D).more⟩
 |swap x b s w ab _ _ hi Y _ a O R M S A=>
  subst M;exact⟨G,(aqT c h hi Y a O R S A).more⟩
 |JD=>exact⟨G,L4.more (h.alter rfl rfl rfl rfl rfl rfl rfl)⟩
 |guard k _ d y C I _ _ l=>
  refine⟨G,L4.more ⟨h.gs,h.t0,λq w a=>?_,h.yp,h.off,h.jR,h.abA,h.heard,h.hZ,λu=>absurd (arz h I) u⟩⟩
  obtain⟨o,t,n3⟩:=h.now q w a;exact⟨o,t,ahz y d n3 (l w (fC a))⟩
 |shut k s _ d y _ C I _ _ l A=>
  rw[c.iz,c.gk] at A;refine⟨G,L4.more ⟨h.gs,h.t0,λq w a=>?_,h.yp,h.off,h.jR,h.abA,h.heard,h.hZ,λu=>⟨C,?_⟩⟩⟩
  .obtain⟨o,t,n3⟩:=h.now q w a;exact⟨o,t,ahz y d n3 (l w (fC a))⟩
  .obtain⟨H,B,Q⟩:=h.hZ.shut h.gs c.hZ h.t0.1 c.gk A;exact⟨H,by show ki p.ao k.af H;rw[d];exact B,Q⟩
 |xX=>exact⟨G,L4.more (h.alter rfl rfl rfl rfl rfl rfl rfl)⟩
 |xZ _ _ _ m _ j=>exact⟨G,(ajN c h m j).more⟩
 |xY _ _ _ _ _ _ _ m _ j=>exact⟨G,(ajN c h m j).more⟩
 |JF k st _ d y C U _=>
  refine⟨G,L4.more ⟨h.gs,h.t0,λq w a=>?_,h.yp,h.off,h.jR,h.abA,h.heard,h.hZ,λu=>absurd rfl u⟩⟩
  obtain⟨o,t,n3⟩:=h.now q w a;exact⟨o,t,λi z _ aa=>U z (fC aa)⟩
def oA.gh(k:dW n np p)(h:L4 n np G p.bB.length p){d:aE}{c:Int}(m:oA p e d c):∃a,L4 n np a d.bB.length d:=by
 cases m with
 |no=>exact⟨G,h⟩
 |bad al nm _ _ _ _ _ _=>
  refine⟨G,?_⟩
  show L4 n np G (p.bB++[_]).length _
  rw[ft];exact L4.more (h.alter rfl rfl rfl rfl rfl rfl rfl)
 |zI q nm j _ s l=>
  obtain⟨a,o⟩:=j.gh k h (by omega) l;refine⟨a,?_⟩
  show L4 n np a (p.bB++[_]).length _
  rw[ft];exact o.alter rfl rfl rfl rfl rfl rfl rfl
def vD.gh{s:gM}(o:yJ s)(h:vD s p):∃G,L4 s.ai.length s.ao.ai.length G p.bB.length p:=by
 obtain⟨x,b,X,rfl,_,P,_⟩:=h.ex;obtain⟨wh,rfl,V,M⟩:=P.ex;have D:=o.tg;have O:=o.pl;have C:∀k,k<s.ai.length->s.ai[k]?=c7 (s.ai.getD k 0)/\0<=s.ai.getD k 0/\s.ai.getD k 0<(s.ao.ai.length:Int):=λk j=>by
  have e:=c6 j;rw[pu e];exact⟨e,O.2 _ (dv j)⟩
 refine⟨⟨λk=>⟨λ_=>s.ai.getD k 0,λ_=>0⟩,λc _=>if c∈s.aw then s.ai.getD (s.aw.idxOf c) 0 else -1,λ_ _=>⟨0,0,[]⟩,λ_=>0⟩,⟨λk j=>⟨by show(0:Int)<=SM;decide,λt h0 Q=>⟨dd _,h0⟩⟩,λk j t _ _=>(C k j).2⟩,⟨dd _,by show(0:Int)<=_;decide⟩,λk w y=>?_,⟨D.1,D.2.nodup⟩,λc m t=>if_neg m,λk rd eZ=>⟨o.rd.2 rd (fC eZ),?_⟩,λk r a _ T h0=>?_,λr S=>(by cases S),⟨λw y R A=>?_,⟨⟨s.aw,wh⟩,by simp,rfl,λk R A=>?_⟩⟩,λN=>absurd rfl N⟩
 .have d:(s.ai.map λq=>bC.mk q (-1) 0)[k]?=c7 w:=y;rw[ey] at d;cases l:s.ai[k]? with
  |none=>rw[l] at d;cases d
  |some q=>
   rw[l] at d;injection d with d
   subst d;refine⟨by show s.ai.getD k 0=q;exact pu l,λF=>absurd F (show ¬(0:Int)<=-1 by decide),λi z hi _=>?_⟩
   have I:s.gZ[i]?=c7 (-1):=hi;have:=(o.br.2.mem (fC I)).1;omega
 .have B:s.aQ[k]?=c7 rd:=eZ;refine⟨⟨λi hi=>absurd hi (gv _),λi c hi=>absurd hi (gv _),λi hi=>absurd hi (gv _),λc i hi=>absurd hi (gv _)⟩,λi hi=>absurd hi (gv _),-1,-1,ef s.ai.length 0,?_,?_,?_,.inl ⟨rfl,rfl,rfl⟩,λi c m=>⟨0,?_,dd _,(o.rd.2 rd (fC eZ)).2.2.2.1.1,λF=>absurd F (gv _)⟩⟩
  .show(s.aQ.map λ_=>(-1:Int))[k]?=_;rw[ey,B];rfl
  .show(s.aQ.map λ_=>(-1:Int))[k]?=_;rw[ey,B];rfl
  .show(s.aQ.map λ_=>ef s.ai.length (0:Int))[k]?=_;rw[ey,B];rfl
  .have:=c9 m;rw[List.getElem?_replicate,if_pos (by have:i<s.aw.length:=this;omega)]
 .have u:(s.aQ.map λ_=>(-1:Int))[k]?=c7 a:=T;rw[ey] at u;cases l:s.aQ[k]? with
  |none=>rw[l] at u;cases u
  |some q=>
   rw[l] at u;have K:c7 (-1:Int)=c7 a:=u;injection K with K
   omega
 .rw[dT] at y;subst y;obtain⟨i,hi,rfl⟩:=dt.1 A;have I:i<wh.length:=hi;obtain⟨E,H,_⟩:=M i _ _ (c6 hi) (C i (by omega)).1;exact⟨H,by rw[E];exact dd _⟩
 .have j:k<wh.length:=c9 A;obtain⟨E,H,U⟩:=M k _ _ A (C k (by omega)).1;refine⟨⟨by omega,by rw[E];exact dd _,λt Q W=>.inl ⟨rfl,rfl⟩,λt _ _=>U⟩,λc m t _ _=>?_⟩
  show(if c∈s.aw then s.ai.getD (s.aw.idxOf c) 0 else -1)=s.ai.getD k 0
  have J:s.aw[k]?=c7 c:=m;rw[if_pos (fC J),agw D.2.nodup J]
end
noncomputable def stp(p:aE)(e:bH):aE×Int:=(w7 LC p e).getD (p,2)
noncomputable def abf(p:aE)(a:List bH):aE:=a.foldl (λp e=>(stp p e).1) p
structure Inv (n np:Nat) (rs:List aS) (p:aE):Prop where
 sh:dW n np p
 gh:∃G,L4 n np G p.bB.length p
 rd:p.au.aQ=rs
 kI:p.bR.dg=[]
def gC.agU{p c:aE}{e:bH}(h:gC p e c):c.bR=p.bR:=by
 cases h with
 |xZ _ _ _ _ _ a=>obtain⟨b,s,fl,sm,d,rfl,_⟩:=a.ex;rfl
 |xY _ _ _ _ _ _ _ _ _ a=>obtain⟨b,s,fl,sm,d,rfl,_⟩:=a.ex;rfl
 |_=>rfl
def oA.agU{p a:aE}{e:bH}{c:Int}(h:oA p e a c):a.bR=p.bR:=by
 cases h with
 |no c _=>rfl
 |bad al nm c _ _ _ _ _=>rfl
 |zI q nm d _ _ _=>exact d.agU
section
variable {n np:Nat}{rs:List aS}{p:aE}{e:bH}
def Inv.step(h:Inv n np rs p)(j:k9 rs.length e):w7 LC p e=c7 (stp p e)/\oA p e (stp p e).1 (stp p e).2/\Inv n np rs (stp p e).1:=by
 have k:J6 p e:=by unfold J6;rw[h.rd];exact j
 obtain⟨d,c,a⟩:=Wq h.sh k;have es:stp p e=d:=by unfold stp;rw[c];rfl
 obtain⟨m,l⟩:=h.gh;rw[es];exact⟨c,a,a.mD h.sh,a.gh h.sh l,a.Gm.trans h.rd,by rw[a.agU];exact h.kI⟩
def arJ(a:List bH):abf p (a++[e])=(stp (abf p a) e).1:=by
 unfold abf;rw[hX]
 rfl
def Inv.run(h:Inv n np rs p):∀{a:List bH},(∀e,e∈a->k9 rs.length e)->Inv n np rs (abf p a):=λ{a} c=>by
 unfold abf
 induction a generalizing p with
 |nil=>exact h
 |cons e a d=>exact d (h.step (c e (hS ..))).2.2 λj k=>c j (hK _ k)
def run_eq(d:Inv n np rs p){a:List bH}(b:∀e,e∈a->k9 rs.length e)(l:a.length<=1000000):Rs LC p a=c7 (abf p a):=by
 unfold Rs;have e:=nV (f:=λc=>WT LC a (sN c) (sE c)) a.length (λi=>u16 (abf p (a.take i)) (i:Int)) (lR (abf p a)) (λi g=>by
  have h:=c6 g;have j:Inv n np rs (abf p (a.take i)):=d.run λe k=>b e (h6 k)
  show WT LC a (abf p (a.take i)) (i:Int)=_
  unfold WT;rw[aC,bn,h,aa,(j.step (b _ (dv g))).1,aa,aJ,iE h,arJ]
  rfl) (by
  show WT LC a (abf p (a.take a.length)) (a.length:Int)=_
  unfold WT;rw[aG,h9])
 refine(dL e).trans ?_
 show(wc LC (abf p a)).bind _=_
 rw[abi (d.run b).sh.lC]
 rfl
def vD.inv{s:gM}(a:yJ s)(h:vD s p):Inv s.ai.length s.ao.ai.length s.aQ p:=by
 refine⟨h.mD a,h.gh a,?_,?_⟩
 .obtain⟨x,b,c,rfl,_⟩:=h.ex;rfl
 .obtain⟨x,b,c,rfl,_⟩:=h.ex;exact a.es.2.1
def inA(p:aE)(c:List Int)(b:Nat):Bool:=match p.au.aN[b]? with |some a=>c5 (a.abG∈c) |none=>false
def Inv.tru(h:Inv n np rs p)(c:List Int):∃w,w∈p.bw.aA/\w.aH.length=n/\∀k,k<n->(jT w c p.au.aa0 k=true->inA p c k=true)/\(inA p c k=true->js w c p.au.aa0 k=true):=by
 obtain⟨t,d⟩:=h.gh;obtain⟨w,l,ht,m⟩:=d.hZ.now d.gs h.sh.hZ d.t0.1;have s:=(h.sh.hZ.mX w l).1.1;refine⟨w,l,s,λk o=>?_⟩
 have ex:=c6 (show k<w.aH.length by omega);have ep:=c6 (show k<p.au.aN.length by rw[h.sh.iz];exact o);have j:=m k _ ex;rw[(d.now k _ ep).1] at j;unfold jT js inA;rw[ex,ep];dsimp only
 constructor
 .intro a;rw[Bool.and_eq_true,Bool.not_eq_true',hz] at a;have:=a.2 _ j;rw[Bool.not_eq_true,Bool.not_eq_false',decide_eq_true_iff] at this;exact decide_eq_true this
 .intro a;exact h7.2 ⟨_,j,a⟩
end
section
variable {n np:Nat}{rs:List aS}{p:aE}{e:bH}
def L4.aev{m:Gh}{L:Nat}(a:dW n np p)(h:L4 n np m L p){k:Nat}{w:bC}(d:p.au.aN[k]?=c7 w):w.abG∈ld p.bw (k:Int) p.au.aa0:=by
 obtain⟨v,c,ht,l⟩:=h.hZ.now h.gs a.hZ h.t0.1;have s:=c9 d;rw[a.iz] at s;have u:=(a.hZ.mX v c).1.1;have ex:=c6 (show k<v.aH.length by omega);have j:=l k _ ex;rw[(h.now k w d).1] at j;obtain⟨h0,t,o⟩:=Sq.1 j;have:=(a.hZ.lt c ex).2;have:=a.mq;exact RJ.2 ⟨h0,by omega,v,_,c,by omega,by rw[e4];exact ex,t,o⟩
end
def Clr(area:List Int)(a:aM):Prop:=∀p,p∈area->0<=p->p<(a.an.length:Int)->fn a.an p=1099511627776
section
variable {n np:Nat}{rs:List aS}{p:aE}{e:bH}{area:List Int}{m:ak}
def Clr.le{x c:aM}(h:Clr area x)(o:x.an.length=m.ai.length)(a:jK m c)(j:∀p,0<=p->p<(m.ai.length:Int)->fn x.an p<=fn c.an p):Clr area c:=λq d h0 k=>by
 have t:=h q d h0 (by have:=a.1.1;omega);have s:=j q h0 (by have:=a.1.1;omega);rcases a.1.2.2 _ (oR h0 k) with l |l <;> omega
def asK{j:aM->aM->Prop}{w:aM->Prop}{q:Int}{b h:aL}(f:D1 b area)(s:oG j w m q b h)(t:∀a k,j a k->Clr area a->Clr area k):D1 h area:=λr o=>by
 obtain⟨g,d,i,a,x,_,v,u,rfl⟩:=s.n.from_ r o;intro l c;rcases ei c with c |rfl
 .exact f g d l c
 .exact t _ _ u (f g d a (fC v))
def auI{f:List ay}{c:aL}(o:rZ n np f c.aA)(k:∀d,d∈f->∀a,a∈d.aH->Clr area a):D1 c area:=o.b (Clr area) (λa g r i l j q b h0 t=>by
 have h:a.an.length=g.an.length:=by omega
 have s:=acE r i;rw[PL h h0 (by omega),l q b h0 (by omega),j q b h0 (by omega)]
 rfl) k
def avW{i j v:Int}{b c:aL}(f:D1 b area)(w:AY m i j v n np b c):D1 c area:=by
 obtain⟨B,l,_,_,_,r⟩:=w.ex;refine auI l λd a=>?_
 rcases r d a with a |⟨x,o,rfl⟩
 .exact f d a
 .intro y s;obtain⟨z,k,rfl⟩:=dt.1 s;obtain⟨A,t,u,_⟩:=F3 (c6 k);obtain⟨g,h,q,_⟩:=F3 t;have:=f x o g (fC h);unfold Clr;rw[u,q];exact this
def av0{m:ak}{r:aZ}{b:Bool}{d a f:Int}(c:r.eN=true):wt m r b d a f= -1:=by
 unfold wt;rw[if_pos (.inl c)]
def auc{m:ak}{d:Int}{i:Nat}{b r:aZ}(a:(cY m d).af[i]?=c7 b)(c:m.af[i]?=c7 r):b=r\/b.eN=true:=by
 unfold cY at a;dsimp only at a
 split at a
 .rw[fe] at a
  split at a
  .split at a
   .injection a with a
    exact .inr (by rw[<-a])
   .cases a
  .rw[c] at a;injection a with a
   exact .inl a.symm
 .rw[c] at a;injection a with a
  exact .inl a.symm
def avl{m f l:ak}{x:List Int}{j:Int}(h:ki m x f)(d:ki (cY m j) x l){p q n:Int}(A:rL l p q n):rL f p q n:=by
 obtain⟨i,r,b,o,a,h0,B,z⟩:=A;have D:=h.len;have E:=d.len;have G:=uF m j;have F:=c9 o;have k:=c6 (show i<f.af.length by omega);have w:=c6 (show i<m.af.length by omega);have t:=c6 (show i<(cY m j).af.length by omega);have C:cP l/\0<=(i:Int):=⟨adg d,by omega⟩;unfold wT at a;rw[if_pos C,e4,o] at a;dsimp only at a;have v:r=f.af[i]'(by omega):=by
  have c:=auc t w;rcases d.off i _ _ t o with⟨g,u⟩ |⟨g,u⟩
  .rcases c with c |c
   .rcases h.off i _ _ w k with⟨s,y⟩ |⟨s,y⟩
    .rw[s,g,c]
    .exact absurd y u
   .rw[av0 (by rw[g];exact c)] at a;omega
  .exfalso
   unfold wt at a;rw[if_pos (.inr (by rw[g]))] at a;omega
 refine⟨i,r,b,by rw[k,v],?_,h0,B,z⟩
 unfold wT;rw[if_pos ⟨adg h,by omega⟩,e4,k, <-v];dsimp only;rw[<-a];unfold wt T.fy jo;rw[h.pl,d.pl]
 rfl
def atq{k d:ak}{r:List Int}{w o:Int}{b h:aL}(F:D1 b area)(C:fM n np b)(D:m.ai.length=np)(H:ki m r k)(l:ki (cY m w) r d)(A:∀a,a∈b.aA->∀c,c∈a.aH->jK k c/\c.aa0<=o)(G:gG (λc j=>mP d c o j) b.aA h.aA):D1 h area:=λI v j u=>by
 obtain⟨a,f,_,J,B⟩:=G.back v;obtain⟨i,x,rfl⟩:=dt.1 u;have e:=c6 (show i<a.aH.length by omega);have s:=B i _ _ e (c6 x);have g:=fC e;obtain⟨t,E⟩:=A a f _ g;have K:d.ai.length=np:=by rw[l.pl];exact D
 refine Clr.le (m:=d) (F a f _ g) (by have:=(C.mX a f).1.2 _ g;omega) s.new λq h0 y=>s.NK _ ?_ (λ_ _ _=>dd _) q h0 y
 exact EF (λp q n z=>t.2 p q n (avl H l z)) E
end
structure WI (p:aE):Prop where
 qx:rR p.bM
 sho:mW p.cL
 clr:p.cL.State≠0->p.bq.aA≠[]/\D1 p.bq p.bM.bT
 fir:∀h,h∈p.bB->h.Event.abv=6->h.Code=0->∃a,a∈p.bS/\fX a 1 h.Event.A
 pln:∀h,p.bB.getLast?=c7 h->h.Event.abv=12->h.Code=0->p.bz.an=[]->∀k:Nat,k<p.au.aN.length->∀x,x∈ld p.bw (k:Int) p.au.aa0->(∃a,a∈p.bS/\fX a 2 x)\/od p.ao {p.bR with dg:=[]} x=true
section
variable {n np:Nat}{rs:List aS}{p p':aE}{e:bH}{G:Gh}{L:Nat}
def gC.blast(h:gC p e p'):p'.bM=p.bM:=by
 cases h with
 |xZ _ _ _ _ _ a=>obtain⟨b,s,fl,sm,c,rfl,_⟩:=a.ex;rfl
 |xY _ _ _ _ _ _ _ _ _ a=>obtain⟨b,s,fl,sm,c,rfl,_⟩:=a.ex;rfl
 |_=>rfl
def gC.sho(h:gC p e p')(c:mW p.cL):mW p'.cL:=by
 cases h with
 |xZ _ _ _ _ _ d=>obtain⟨b,s,fl,sm,j,rfl,_⟩:=d.ex;exact c
 |xY _ _ _ _ _ _ _ _ _ d=>obtain⟨b,s,fl,sm,j,rfl,_⟩:=d.ex;exact c
 |xX st _ a _=>exact a
 |JF k st _ _ _ _ _ a=>
  rcases a with⟨a,_⟩ |a
  .show mW st;rw[a];exact c
  .show mW st;rw[a];exact Xp
 |_=>exact c
def gC.iI(a:dW n np p)(h:gC p e p'):gj p.bS p'.bS:=by
 cases h with
 |xZ _ _ _ _ _ c=>obtain⟨b,s,fl,sm,j,rfl,_⟩:=c.ex;exact gj.refl a.iI
 |xY _ _ _ _ _ _ _ _ _ c=>obtain⟨b,s,fl,sm,j,rfl,_⟩:=c.ex;exact gj.refl a.iI
 |JD _ _ _ _ d _=>exact d
 |_=>exact gj.refl a.iI
def gC.avf(h:gC p e p')(d:e.abv=6):∃a,a∈p'.bS/\fX a 1 e.A:=by
 cases h with
 |JD _ _ _ _ _ c=>exact c
 |wait h0 |walk _ h0 |look _ _ _ _ h0 |JE _ _ _ _ _ _ _ _ _ h0 |swap _ _ _ _ _ h0 |guard _ h0 |shut _ _ h0 |xZ _ h0 |JF _ _ h0 |xY _ _ _ h0=>omega
 |xX _ h0=>omega
def atD{t:ak}{u g:List Int}{clock:Int}{rs k:aS}{r:aT}{j:List aT}{o:Int}{m h b i:aL}(v:fv t u clock rs k r j o m h b i)(w:D1 h g):D1 i g:=by
 induction v with
 |nil=>exact w
 |Ls _ _ _ _ c=>exact c
 |abs _ _ _ _ _ _ c=>exact c
 |Lt z s _ _ _ _ f c=>
  exact asK c f λl q a d=>by
   rcases a with rfl |a
   .exact d
   .exact d.le a.bG.1.1 a.new a.NK
 |Lu x y s _ _ _ _ _ f c=>
  exact asK c f λl q a d=>by
   rcases a with rfl |⟨_,a⟩
   .exact d
   .exact d.le a.bG.1.1 a.new a.NK
def asO(i:dW n np p)(t:L4 n np G L p){h:List Int}{d:aB}{l:Int}(s:oP {p with au:=d} l p')(u:d.aa0=p.au.aa0)(f:p.bq.aA≠[])(c:D1 p.bq h):p'.bq.aA≠[]/\D1 p'.bq h:=by
 obtain⟨b,j,fl,w,r,rfl,_,_,_,_,g,_⟩:=s.ex;rcases g with⟨m,_⟩ |⟨_,k,a⟩
 .exact absurd m f
 .obtain⟨_,x,v,g⟩:=t.je f;refine⟨λc=>f ?_,?_⟩
  .have:=a.1;have c:j.aA=[]:=c;rw[c] at this;exact ee.1 this.symm
  .have a:gG (λq o=>mP r q d.aa0 o) p.bq.aA j.aA:=a;rw[u] at a;exact atq c i.je i.gk v k g.wok a
def gC.clr(d:dW n np p)(o:L4 n np G L p)(h:gC p e p')(j:WI p):p'.cL.State≠0->p'.bq.aA≠[]/\D1 p'.bq p.bM.bT:=by
 cases h with
 |xZ _ _ _ _ _ l=>
  intro a;have a:p.cL.State≠0:=by obtain⟨b,s,fl,sm,t,rfl,_⟩:=l.ex;exact a
  have:=j.clr a;exact asO d o l rfl this.1 this.2
 |xY _ _ _ _ _ _ _ _ _ l=>
  intro a;have a:p.cL.State≠0:=by obtain⟨b,s,fl,sm,t,rfl,_⟩:=l.ex;exact a
  have:=j.clr a;exact asO d o l rfl this.1 this.2
 |xX st _ _ c=>exact λ_=>⟨c.2.2.2.1,c.2.2.2.2⟩
 |JF k st _ _ _ _ _ c=>
  intro a;have a:st.State≠0:=a;rcases c with⟨c,m⟩ |c
  .rw[c] at a;exact absurd m a
  .rw[c] at a;exact absurd rfl a
 |guard |wait |walk |look |JD=>exact j.clr
 |shut k s _ _ _ _ _ A _ _ _ _=>
  intro a;exact absurd (arz o A) (j.clr a).1
 |JE k rs rd r num C x b s _ _ _ _ _ _ _ _ _ _ _ y=>
  intro a;have:=j.clr a;exact⟨λh=>this.1 ((y.shape d.gk d.hZ d.bne d.je).2.2.1 h),atD y this.2⟩
 |swap x b s w D _ _ _ _ _ _ _ _ _ E B=>
  intro a;have:=j.clr a;rcases B with⟨c,_⟩ |⟨t,_,_,u⟩
  .exact absurd c this.1
  .refine⟨?_,avW this.2 u⟩
   obtain⟨F,c,m,_⟩:=u.ex;exact c.e m
def avA{a:bQ}{c:Int}(b:a.an=[]):filled a c=[]:=by
 unfold filled;rw[b]
 rfl
def oA.wi(s:dW n np p)(I:L4 n np G L p)(j:WI p){c:Int}(h:oA p e p' c):WI p':=by
 cases h with
 |no=>exact j
 |bad al nm _ H J _ _ _=>
  refine⟨j.qx,j.sho,j.clr,λh d m h0=>?_,λh d A h0=>?_⟩
  .rcases ea.1 d with d |d
   .obtain⟨a,u,B,w⟩:=j.fir h d m h0;obtain⟨b,E,D,F⟩:=J.2 a u;exact⟨b,E,D.trans B,F.trans w⟩
   .rw[dT] at d;rw[d] at h0;exact absurd h0 H
  .rw[List.getLast?_concat] at d;injection d with d
   rw[<-d] at h0;exact absurd h0 H
 |zI q nm l _ _ _=>
  refine⟨by show rR q.bM;rw[l.blast];exact j.qx,l.sho j.sho,by show q.cL.State≠0->q.bq.aA≠[]/\D1 q.bq q.bM.bT;rw[l.blast];exact l.clr s I j,λh d m h0=>?_,λh d A h0 C=>?_⟩
  .rcases ea.1 d with d |d
   .obtain⟨a,u,B,w⟩:=j.fir h d m h0;obtain⟨b,E,D,F⟩:=(l.iI s).2 a u;exact⟨b,E,D.trans B,F.trans w⟩
   .rw[dT] at d;rw[d] at m⊢;exact l.avf m
  .rw[List.getLast?_concat] at d;injection d with d
   rw[<-d] at A;have o:=l.aoJ s A;have C:q.bz.an=[]:=C;intro k y x t;have y:k<q.au.aN.length:=y;have t:x∈ld q.bw (k:Int) q.au.aa0:=t;rw[o.time] at t;have:=o.qE k (by rw[<-s.iz, <-o.iz];exact y) x t;rw[avA (o.pq.1 C)] at this;show(∃a,a∈q.bS/\_)\/od q.ao {q.bR with dg:=[]} x=true
   rw[o.kI];exact this
def vD.wi{s:gM}(c:yJ s)(h:vD s p):WI p:=by
 obtain⟨x,b,d,rfl,_⟩:=h.ex;exact⟨c.bl.1,Xp,λh=>absurd rfl h,λh a=>(by cases a),λh a=>(by cases a)⟩
structure InW (n np:Nat) (rs:List aS) (p:aE):Prop where
 i:Inv n np rs p
 w:WI p
def InW.step(h:InW n np rs p)(a:k9 rs.length e):InW n np rs (stp p e).1:=by
 obtain⟨G,c⟩:=h.i.gh;have:=h.i.step a;exact⟨this.2.2,this.2.1.wi h.i.sh c h.w⟩
def InW.run(h:InW n np rs p){a:List bH}(c:∀e,e∈a->k9 rs.length e):InW n np rs (abf p a):=by
 unfold abf
 induction a generalizing p with
 |nil=>exact h
 |cons e a d=>exact d (h.step (c e (hS ..))) λj k=>c j (hK _ k)
def asJ(s:Inv n np rs p)(h0:p.bB=[]){a:List bH}(h:∀e,e∈a->k9 rs.length e):∀i:Nat,i<=a.length->abf p ((abf p (a.take i)).bB.map λc=>c.Event)=abf p (a.take i)/\∀e,e∈(abf p (a.take i)).bB.map (λc=>c.Event)->e∈a
 |0,_=>by
  rw[List.take_zero,show abf p []=p from rfl,h0];exact⟨rfl,λe w=>by cases w⟩
 |i+1,B=>by
  obtain⟨l,m⟩:=asJ s h0 h i (by omega);have b:=c6 (show i<a.length by omega);have j:=dv (show i<a.length by omega);generalize a[i]'(by omega)=e at b j;have u:Inv n np rs (abf p (a.take i)):=s.run λc b=>h c (h6 b)
  have o:=(u.step (h e j)).2.1;rw[iE b,arJ];generalize z:abf p (a.take i)=q at*;generalize v:stp q e=g at*;have t:(g.1=q)\/(∃k d,g.1.bB=q.bB++[⟨e,q.au.aa0,k,d⟩]):=by
   obtain⟨y,C⟩:=g;dsimp only at o⊢;cases o with
   |no=>exact .inl rfl
   |bad A d k _ _ _ _ _=>exact .inr ⟨_,_,rfl⟩
   |zI r d x _ _ _=>exact .inr ⟨_,_,rfl⟩
  rcases t with f |⟨k,d,f⟩
  .rw[f];exact⟨l,m⟩
  .rw[f,j1,List.map_singleton,arJ,l,v];refine⟨rfl,λc b=>?_⟩
   rcases ea.1 b with b |b
   .exact m c b
   .rw[dT.1 b];exact j
end
def aob{d:Type}{f:Int->Option (Int⊕(Unit⊕Unit))}{g:d->d->Int->Option (Int⊕(Unit⊕Unit))}{b:List d}(h:Sm b)
 (e:∀a,f a=bif c5 (a<(b.length:Int)) then(aj b a).bind λc=>(aj b a).bind λk=>g c k a else c7 (.inr (.inr ())))
 (l:∀c,c∈b->∀a,g c c a=c7 (.inl (c3 c4 (a+1)))):bO f 0=c7 (.inr ()):=by
 have h:b.length<=1000000:=h;refine nV (f:=f) b.length (λi=>(i:Int)) (.inr ()) (λi j=>?_) (by rw[e,aG])
 rw[e,aC,bn,c6 j,aa,aa,l _ (dv j),aJ]
 rfl
def amS{b:List Int}(a:Sm b):afx LC b b=c7 true:=by
 unfold afx;rw[aG (λa=>a rfl)];refine(dL (aob (f:=λc=>afN LC b b c) a (λc=>rfl) λd _ c=>?_)).trans rfl
 rw[aG (λa=>a rfl)]
def asN{a:ak}(g:Sm a.ai)(e:Sm a.af):ar8 LC a a=c7 true:=by
 unfold ar8;rw[aG (λc=>c rfl),decide_eq_false (λc=>c rfl),aa,cond_false];refine(dL (aob (f:=λb=>asM LC a a b) g (λb=>rfl) λd _ b=>?_)).trans ?_
 .simp
 refine(dL (aob (f:=λb=>asL LC a a b) e (λb=>rfl) λd _ b=>?_)).trans rfl
 simp
def avD{c:aB}(a:ny c):asj LC c c=c7 true:=by
 unfold asj;rw[asN a.pl a.rd,aa,e5,cond_false,aG (λa=>a rfl),aG (λa=>a rfl),amS a.tg,aa,e5,cond_false,amS a.nu,aa,e5,cond_false,amS a.lo,aa,e5,cond_false,aG (λa=>a rfl),decide_eq_false (λa=>a rfl),aa,cond_false];refine(dL (aob (f:=λb=>as5 LC c c b) a.pe (λb=>rfl) λc _ b=>?_)).trans ?_
 .simp
 refine(dL (aob (f:=λb=>as4 LC c c b) a.rs (λb=>rfl) λd e b=>?_)).trans ?_
 .rw[amS (a.rp d e),aa,e5,cond_false,aG (λa=>a rfl),aG (λa=>a rfl),decide_eq_false (λa=>a rfl)]
  rfl
 refine(dL (aob (f:=λb=>asZ LC c c b) a.mi (λb=>rfl) λd e b=>?_)).trans rfl
 rw[amS (a.mr d e)]
 rfl
def as1{a:List aT}(c:Sm a)(e:∀r,r∈a->Sm r.aw):ar9 LC a a=c7 true:=by
 unfold ar9;rw[aG (λc=>c rfl)];refine(dL (aob (f:=λb=>asW LC a a b) c (λb=>rfl) λd g b=>?_)).trans rfl
 unfold af8;rw[aC rfl,aC rfl,aC rfl,amS (e d g)]
 rfl
def as0{b:aL}(c:gF b):asb LC b b=c7 true:=by
 unfold asb;rw[aG (λc=>c rfl)];refine(dL (aob (f:=λa=>as7 LC b b a) c.1 (λa=>rfl) λe g a=>?_)).trans rfl
 have d:=c.2 e g;rw[amS d.tg,aa,e5,cond_false,decide_eq_false (λc=>c rfl),aa,cond_false];refine(dL (aob (f:=λa=>as2 LC e e a) d.wh (λa=>rfl) λh i a=>?_)).trans rfl
 unfold asq;rw[aC rfl,amS (d.fr h i)]
 rfl
def at3{a:List dK}(b:Sm a)(g:∀r,r∈a->Sm r.ll):asl LC a a=c7 true:=by
 have j:a.length<=1000000:=b;unfold asl;rw[aG (λb=>b rfl)];refine(dL (nV (f:=λe=>asi LC a a e) a.length (λi=>(i:Int)) (.inr ()) (λi c=>?_) (by unfold asi;rw[aG]))).trans rfl
 have h:=c6 c;have d:=g _ (dv c);unfold asi;rw[aC,bn,h];simp only[aa];rw[amS d,aJ];simp
def asY{p:aE}(a:EW p):asf LC p p=c7 true:=by
 unfold asf asy asu asn asB ast aso;have d:=aob (f:=λb=>asC LC p.cI p.cI b) a.fl (λb=>rfl) λc _ b=>by simp
 have e:=aob (f:=λb=>asw LC p.bS p.bS b) a.al (λb=>rfl) λc _ b=>by simp
 rw[avD a.tr,asN a.pl a.rd,show LC.loop (λb=>asC LC p.cI p.cI b) 0=_ from d,show LC.loop (λb=>asw LC p.bS p.bS b) 0=_ from e,amS a.es,amS a.eb,amS a.eh,amS a.ba,as1 a.pe a.pt,as1 a.he a.ht,amS a.il,amS a.io,as0 a.be,as0 a.se,amS a.sm,amS a.kr,amS a.kk,at3 a.lg a.ln];simp
section
variable {n np:Nat}{rs:List aS}{p:aE}{e:bH}{b:aL}{area:List Int}
def auf(c a:Int)(h:Fit p.bS):KD LC p c a=c7 (p.bS.any λd=>c5 (fX d c a)):=by
 unfold KD O7;have g:Qo LC p.bS c a=c7 (gg (λd=>c5 (fX d c a)) p.bS):=by
  unfold Qo;exact fF (P:=λf=>Lf LC f c a) h (λf _=>by unfold Lf;exact fm rfl) λa=>rfl
 rw[g,aa,gm,aa]
def asI{d c:Int}(f:Fit p.bS)(g:∃a,a∈p.bS/\fX a d c):KD LC p d c=c7 true:=by
 obtain⟨a,i,h⟩:=g;rw[auf d c f];exact congrArg c7 (h7.2 ⟨a,i,decide_eq_true h⟩)
def asS(d:gF b)(u:p.au.aN.length<=1000)(o:∀(j:Nat) a,p.au.aN[j]?=c7 a->a.abG∈ld b (j:Int) p.au.aa0)(m:∃a,a∈b.aA/\a.aw=p.au.aw):GK LC p b=c7 true:=by
 unfold GK;have e:=nV (f:=λh=>aes LC p b h) p.au.aN.length (λi=>(i:Int)) (.inr ()) (λi s=>by
  have g:=c6 s;have l:Fit (ld b (i:Int) p.au.aa0):=by have:=LS b (i:Int) p.au.aa0;show _<=4611686018427387904;omega
  unfold aes;rw[aC,bn,g,aa,QC d,aa,contains_eq l,aa,decide_eq_true (o i _ g),e5,cond_false,aJ]
  rfl) (by unfold aes;rw[aG])
 refine(dL e).trans ?_
 have q:Ma LC b.aA p=c7 (gg (λa=>c5 (a.aw=p.au.aw)) b.aA):=by
  unfold Ma;exact fF (P:=λc=>Qz LC c p) (eH d.1 (by decide)) (λc t=>by unfold Qz;rw[GV (eH (d.2 c t).tg (by decide)),aa]) λh=>rfl
 obtain⟨a,k,r⟩:=m;simp only[j6];unfold Th;rw[q,aa,gm,aa];exact congrArg c7 (h7.2 ⟨a,k,decide_eq_true r⟩)
def as8(q:Nat->Bool):∀n:Nat,((kM (λi=>q i.toNat) n).length:Int)=fH q n
 |0=>rfl
 |n+1=>by
  rw[afI,fH, <-as8 q n,e4];cases q n <;> simp
def aut(j:p.au.aN.length<=1000)(d:Fit p.bM.bT):FN LC p=c7 (kM (λi=>inA p p.bM.bT i.toNat) p.au.aN.length):=by
 unfold FN QU;have e:=GY (n:=p.au.aN.length) (by omega) (P:=λa=>OJ LC a p) (p:=λi=>inA p p.bM.bT i.toNat) (f:=λa=>al1 LC (p.au.aN.length:Int) p a.1 a.2) (λi g=>by
  have c:=c6 g;unfold OJ inA;rw[bn,c,aa,contains_eq d,aa,e4,c]) (λh a=>rfl)
 rw[show LC.loop (λa:List Int×Int=>al1 LC (p.au.aN.length:Int) p a.1 a.2) ([],0)=_ from e,aa,aa]
def av9{a:List bC}(f:Fit a)(h:Fit p.aa2.af):Rp LC a p=c7 (a.any λc=>c5 (0<=c.akw/\c.akw∈p.aa2.af)):=by
 unfold Rp;have g:Na LC a p=c7 (gg (λc=>c5 (0<=c.akw/\c.akw∈p.aa2.af)) a):=by
  unfold Na;exact fF (P:=λd=>Oy LC d p) f (λd _=>by unfold Oy;rw[contains_eq h,aa];exact fm rfl) λi=>rfl
 rw[g,aa,gm]
def auw{d:List dK}(j:Fit d)(k:Fit p.bS)(a:∀a,a∈d->a.Event.abv=6->a.Code=0->∃h,h∈p.bS/\fX h 1 a.Event.A):Sa LC d p=c7 false:=by
 unfold Sa;have i:NP LC d p=c7 (gg (λ_=>false) d):=by
  unfold NP;refine fF (P:=λc=>OU LC c p) j (λc l=>?_) λm=>rfl
  unfold OU
  by_cases g:c.Event.abv=6
  .rw[aC g]
   by_cases f:c.Code=0
   .rw[aC f,asI k (a c l g f)]
    rfl
   .rw[aG f]
  .rw[aG g]
 rw[i,aa,gm];simp
def Inv.free(h:Inv n np rs p)(s:p.bq.aA≠[])(t:D1 p.bq area){k:Nat}:inA p area k=false:=by
 obtain⟨u,a⟩:=h.gh;obtain⟨_,x,_,m⟩:=a.je s;obtain⟨v,d,_,j⟩:=m.now a.gs h.sh.je a.t0.1;unfold inA;cases ep:p.au.aN[k]? with
 |none=>rfl
 |some w=>
  have A:=c9 ep;have B:=(h.sh.je.mX v d).1.1;have ex:=c6 (show k<v.aH.length by have:=h.sh.iz;omega);have c:=j k _ ex;rw[(a.now k w ep).1] at c;obtain⟨h0,o,y⟩:=Sq.1 c;refine decide_eq_false λl=>?_
  have:=t v d _ (fC ex) _ l h0 o;have:=a.t0.2;omega
def auo(u:InW n np rs p):Nl LC p=c7 true:=by
 have a:=u.i.sh;have E:Fit p.bS:=by have:=a.iI.1;show _<=4611686018427387904;omega
 have F:=a.log;have H:=a.n3;have G:=a.iz;have J:=a.gq.1;have I:=a.gq.2.1;unfold Nl
 by_cases h0:p.bB.length=0
 .rw[aC]
  rfl
 rw[aG,aJ];have g:p.bB[p.bB.length -1]?=c7 (p.bB[p.bB.length -1]'(by omega)):=c6 _;have r:p.bB.getLast?=c7 (p.bB[p.bB.length -1]'(by omega)):=by rw[List.getLast?_eq_getElem?];exact g
 generalize p.bB[p.bB.length -1]'(by omega)=c at g r;rw[show aj p.bB ((p.bB.length:Int) -1)=c7 c by rw[show(p.bB.length:Int) -1=((p.bB.length -1:Nat):Int) by omega,bn];exact g,aa,aa];have C:(bif c5 (c.Event.abv≠12) then c7 true else bif c5 (c.Code≠0) then c7 true else c7 (c5 (0<(p.bz.an.length:Int))))=c7 (c5 (c.Event.abv≠12\/c.Code≠0\/0<(p.bz.an.length:Int))):=ew (ew rfl);rw[C,aa]
 by_cases w:c.Event.abv≠12\/c.Code≠0\/0<(p.bz.an.length:Int)
 .rw[aC w]
 rw[aG w];have A:=u.w.pln c r (by omega) (by omega) (ee.1 (by omega));have D:lO {p.bR with dg:=[]}:=⟨a.kI.1.s,by show(0:Nat)<=_;omega,a.kI.1.h⟩;have e:=nV (f:=λj=>aaL LC p j) p.au.aN.length (λi=>(i:Int)) (.inr ()) (λi B=>by
  unfold aaL;rw[aC,QC a.lC.be,aa];have x:=LS p.bw (i:Int) p.au.aa0;have o:=A i B;generalize ld p.bw (i:Int) p.au.aa0=k at x o;have z:=nV (f:=λj=>al5 LC k p j) k.length (λd=>(d:Int)) (.inr ()) (λd s=>by
   unfold al5;have l:=c6 s;have h:=o _ (dv s);generalize k[d]=q at l h;rw[aC,bn,l,aa];obtain⟨v,t,_⟩:=L1 (m:=p.ao) (e:={p.bR with dg:=[]}) (p:=q) D (by show _<=4611686018427387904;omega) (by omega);rw[t,aa,aJ];have y:od p.ao {p.bR with dg:=[]} q=v:=by unfold od;rw[t];rfl
   rw[y] at h;cases v with
   |true=>rfl
   |false=>
    rw[asI E (h.resolve_right (by simp))]
    rfl) (by unfold al5;rw[aG])
  refine(dL z).trans ?_
  simp only[j6];rw[aJ]
  rfl) (by unfold aaL;rw[aG])
 exact(dL e).trans rfl
def ar4{c:Option Bool}(f:c=c7 true)(a:Int):((c.bind λd=>c7 (!d)).bind λh=>(bif h then(bj 8 [] [c3 c4 (a+1)]).bind λg=>c7 g else c7 ([]:List Int)).bind λr=>c7 (eo (r,c3 c4 (a+1)):(List Int×Int)⊕List Int))=c7 (.inl ([],c3 c4 (a+1))):=by
 subst f
 rfl
def asV(a:InW n np rs p):N8 LC p=c7 []:=by
 have c:=a.i.sh;obtain⟨X,h⟩:=a.i.gh;have U:Fit p.bS:=by have:=c.iI.1;show _<=4611686018427387904;omega
 have Z:=c.n3;have N:=c.iz;have W:=c.mq;have o:Fit p.bM.bT:=eH c.qx (by decide);have z:Fit p.aa2.af:=eH c.key.sm.1 (by decide);have B:=aut (p:=p) (by omega) o;have H:LL LC p=c7 true:=by
  unfold LL;obtain⟨v,l,x,_⟩:=h.hZ.now h.gs c.hZ h.t0.1;rw[asS c.lC.be (by omega) (λd g j=>h.aev c j) ⟨v,l,x⟩,aa]
 have R:PU LC p=c7 true:=by
  unfold PU
  by_cases h0:p.bq.aA=[]
  .rw[aC (by rw[h0];rfl)]
  .have:=ez.2 h0;rw[aG];obtain⟨_,ab,_,T⟩:=h.je h0;obtain⟨v,l,x,k⟩:=T.now h.gs c.je h.t0.1;rw[asS c.lC.se (by omega) (λd g j=>by
    have V:=c9 j;have w:=c6 (show d<v.aH.length by have:=(c.je.mX v l).1.1;omega);have C:=k d _ w;rw[(h.now d g j).1] at C;obtain⟨h0,A,y⟩:=Sq.1 C;have:=(c.je.lt l w).2;exact RJ.2 ⟨h0,by omega,v,_,l,by omega,by rw[e4];exact w,A,y⟩) ⟨v,l,x⟩,aa]
 have G:QK LC p=c7 true:=by
  unfold QK;have S:(bif c5 (p.cL.State≠3) then bif c5 (p.cL.State≠4) then c7 true else c7 (c5 (p.cL.aa0≠p.au.aa0)) else c7 (c5 (p.cL.aa0≠p.au.aa0)))=c7 (c5 ((p.cL.State≠3/\p.cL.State≠4)\/p.cL.aa0≠p.au.aa0)):=by
   by_cases q:p.cL.State=3
   .rw[aG (λa=>a q)];congr 1;exact decide_eq_decide.2 ⟨.inr,λa=>a.resolve_left λa=>a.1 q⟩
   .rw[aC q]
    by_cases r:p.cL.State=4
    .rw[aG (λa=>a r)];congr 1;exact decide_eq_decide.2 ⟨.inr,λa=>a.resolve_left λa=>a.2 r⟩
    .rw[aC r,decide_eq_true (.inl ⟨q,r⟩)]
  rw[S,aa]
  by_cases m:(p.cL.State≠3/\p.cL.State≠4)\/p.cL.aa0≠p.au.aa0
  .rw[aC m]
  .obtain⟨F,D⟩:=a.w.clr (by omega);have u:kM (λi=>inA p p.bM.bT i.toNat) p.au.aN.length=[]:=by
    refine List.eq_nil_iff_forall_not_mem.2 λY Q=>?_
    have:=(SJ.1 Q).2.2;rw[a.i.free F D] at this;cases this
   rw[aG m,B,u,aa,aC (p:=(([]:List Int).length:Int)=0) rfl,Vo c.lC.se o,decide_eq_true D,aa]
 have L:Rh LC p=c7 true:=by
  unfold Rh;cases O:p.aa2.Out with
  |false=>rfl
  |true=>
   rw[e5,cond_false];unfold Nd;rw[av9 (by show _<=4611686018427387904;omega) z,aa,aa];have u:(p.au.aN.any λg=>c5 (0<=g.akw/\g.akw∈p.aa2.af))=false:=by
    refine hz.2 λg j m=>?_
    obtain⟨d,k,rfl⟩:=dt.1 j;exact((h.now d _ (c6 k)).2.2.out c.key O) (of_decide_eq_true m).2
   rw[u]
   rfl
 have M:Ow LC p=c7 true:=by
  unfold Ow;obtain⟨g,j,J,k⟩:=a.i.tru p.bM.bT;obtain⟨ac,I,m⟩:=aqJ (b:=p.bw) (area:=p.bM.bT) (t:=p.au.aa0) c.lC.be o;have K:=m g j;rw[J] at K;have A:fH (jT g p.bM.bT p.au.aa0) n<=fH (inA p p.bM.bT) n:=asD n λd s=>(k d s).1
  have y:fH (inA p p.bM.bT) n<=fH (js g p.bM.bT p.au.aa0) n:=asD n λd s=>(k d s).2
  rw[I,aa,B,aa,as8 (inA p p.bM.bT),N,cF,aa,decide_eq_true (by omega)]
 have r6:NV LC p=c7 true:=by
  unfold NV;rw[auw (by have:=c.log;show _<=4611686018427387904;omega) U a.w.fir]
  rfl
 have r8:Ng LC p=c7 true:=by
  unfold Ng;rw[aka,aa,decide_eq_true c.iI,cond_true,tA z,aa,decide_eq_true c.key,cond_true,AH o,aa,decide_eq_true ⟨a.w.qx,a.w.sho⟩]
 unfold N8 Ol;rw[aa];refine(dL (nV (f:=λE:List Int×Int=>aak LC [c7 121,c7 123,c7 124,c7 125,c7 127,c7 128,c7 129,c7 130] p E.1 E.2) 8 (λi=>([],(i:Int))) [] (λi P=>?_) rfl)).trans rfl
 match i,P with
 |0,_=>exact ar4 H 0
 |1,_=>exact ar4 R 1
 |2,_=>exact ar4 G 2
 |3,_=>exact ar4 L 3
 |4,_=>exact ar4 M 4
 |5,_=>exact ar4 r6 5
 |6,_=>exact ar4 (auo a) 6
 |7,_=>exact ar4 r8 7
def avo(l:InW n np rs p){a:List bH}(c:∀e,e∈a->k9 rs.length e)(o:a.length<=1000000):asm LC p a=c7 ((a.length:Int),[]):=by
 unfold asm;have e:=nV (f:=λd=>ar6 LC a (sN d) (sE d)) a.length (λi=>u16 (abf p (a.take i)) (i:Int)) (.inr ()) (λi j=>by
  have k:=c6 j;have g:InW n np rs (abf p (a.take i)):=l.run λe m=>c e (h6 m)
  have h:=c _ (dv j);show ar6 LC a (abf p (a.take i)) (i:Int)=_
  unfold ar6;rw[aC,bn,k,aa,(g.i.step h).1,aa,asV (g.step h),aa,aG (by simp),aJ,iE k,arJ]
  rfl) (by
  show ar6 LC a (abf p (a.take a.length)) (a.length:Int)=_
  unfold ar6;rw[aG])
 exact(dL e).trans rfl
end
def atQ(b:Int){a:Int}(g:1<=a)(e:a<=1000000):Ok (Ie LC b a) λr=>0<=r/\r<a:=by
 unfold Ie;rw[aG,D7 (by omega),aa];have c:=hM b (show 0<a by omega);have f:=hP b (show 0<a by omega);refine aV (λd=>?_) (λd=>ae ⟨by omega,c⟩)
 rw[aJ];exact ae ⟨by omega,by omega⟩
def avy{a:List dK}(h:a.length<=1000)(p:aE)(d:p.bB=a):bO (λc:List bH×Int=>ar5 LC p c.1 c.2) ([],0)=c7 (a.map λb=>b.Event):=by
 refine nV (f:=λc:List bH×Int=>ar5 LC p c.1 c.2) a.length (λi=>((a.take i).map λb=>b.Event,(i:Int))) _ (λi g=>?_) ?_
 .have e:=c6 g;show ar5 LC p ((a.take i).map λb=>b.Event) (i:Int)=_
  unfold ar5;rw[d,aC,bn,e,aa,dm (by decide) (by simp;omega),aa,aJ,iE e,j1]
  rfl
 .show ar5 LC p ((a.take a.length).map λb=>b.Event) (a.length:Int)=_
  unfold ar5;rw[d,aG,h9]
def avr(m:List Int)(v:Int):asr LC m v=c7 true:=by
 unfold asr;rw[ajy,aa,WQ]
 by_cases w:(m.length:Int)<=400
 rotate_left
 .rw[decide_eq_false w];rfl
 rw[decide_eq_true w,e5,cond_false];have x:m.length<=400:=by omega
 refine Ok.val ?_
 refine c8 (a:=m) rfl ?_
 refine aD (alo x) λe l=>?_
 obtain⟨⟨p,ok⟩,D,y,o⟩:=Vr l.2;dsimp only at y o;subst y;rw[D,aa,aa,e5,cond_false,aa,cond_false];have g:=o.inv l.2;have t:InW e.2.2.ai.length e.2.2.ao.ai.length e.2.2.aQ p:=⟨g,o.wi l.2⟩;have h0:p.bB=[]:=by obtain⟨u,b,G,rfl,_⟩:=o.ex;rfl
 refine aD (aqk x (d:=⟨e.1,e.2.1⟩) l.1 g.sh 30 (by decide) (by decide)) λs r=>?_
 have f:∀c,c∈s.2.2->k9 e.2.2.aQ.length c:=by rw[<-g.rd];exact r.2.2
 have C:=r.2.1;generalize s.2.2=h at f C;rw[aJ];refine aD (atQ v (by omega) (by omega)) λk H=>?_
 have B:abf (abf p (h.take k.toNat)) (h.drop k.toNat)=abf p h:=by
  unfold abf;rw[<-hX,List.take_append_drop]
 have q:∀c,c∈h.take k.toNat->k9 e.2.2.aQ.length c:=λc i=>f c (h6 i)
 have F:∀c,c∈h.drop k.toNat->k9 e.2.2.aQ.length c:=λc i=>f c (gy i)
 have n:=t.run f;obtain⟨A,z⟩:=asJ g h0 f h.length (gx _);rw[h9] at A z;have E:∀c,c∈(abf p h).bB.map (λu=>u.Event)->k9 e.2.2.aQ.length c:=λc i=>f c (z c i)
 have I:=n.i.sh.log;rw[run_eq g f (by omega),aa,l8 (by omega) (by omega) (by omega),aa,show((0:Int).toNat)=0 from rfl,List.drop_zero,run_eq g q (by rw[List.length_take];omega),aa,l8 (by omega) (by omega) (by omega),aa,e4,h9,run_eq (g.run q) F (by rw[hD];omega),aa,B,avo t f (by omega),aa,asY n.i.sh.lC,aa,e5,cond_false,aG (λj=>j rfl),aG (λj=>j rfl),asV n,aa,decide_eq_false (λj=>j rfl),aa,cond_false];refine c8 (avy (by omega) _ rfl) ?_
 rw[aa,cond_true,run_eq g E (by rw[e6];omega),aa,A,asY n.i.sh.lC,aa];exact ae rfl
end Go.X.T
namespace Go.X.T
open Go Go.Aml Go.Bml Go.X Go.Proofs Go.ChangeShapes Go.WideShapes Go.RowKit Go.ChangeAt
def at8:G8 hL (asp LC) [22,3]:=λs h0=>by
 obtain⟨n,m,h,rfl,i⟩:=ajJ h0;obtain⟨l,p,d,rfl,g⟩:=ajJ i;obtain rfl:=adH g;obtain⟨a,rfl,o,q⟩:=aeB (e:=3) (k:=.i64) (by kernel_rfl) (by kernel_rfl) (by kernel_rfl) (by kernel_rfl) h;obtain⟨b,rfl,r⟩:=ahG (k:=.i64) (by kernel_rfl) d;refine⟨(a,b),true,avr a b,rfl,λc=>?_,rfl⟩
 have f:dP hL 22=c7 false:=by kernel_rfl
 have j:dP hL 3=c7 false:=by kernel_rfl
 rw[f,j]
 match c with
 |0=>rfl
 |1=>rfl
 |c+2=>rfl
end Go.X.T
namespace Go.Proofs.YtfljhldgncdifaaGreat
open Go Go.Aml Go.Bml Go.X Go.X.T Go.ChangeShapes Go.WideShapes Go.ChangeAt Go.RowKit
def Wd:joinedFacts Tryz.pinned.checked.prog 4 Tryz.f4 Rows.topWholeSpec Rows.topWholeRow=true:=by
 unfold joinedFacts;rw[ja,jb,jc,jd]
 kernel_rfl
def lifted(os:Os)(started:os.Started)(H:Type)(enc:TypeId×Value->H):
 ReturnsInHanded {} hY os 4 .any (Rows.topWholeSpec.pre6 enc hL Tryz.f4 Rows.topWholeRow.domain false) (Rows.topWholeSpec.post enc hL Tryz.f4 false true false false):=
 ahF (C:=hY) (c:=asp LC) (tb:=4) (by kernel_rfl) started (by kernel_rfl) Tryz.func4
  (ChangeSpec.witness6 (enc:=enc) (C:=hY) false ⟨#[],#[.slice ie 0 0,.int .i64 0],[]⟩ 8 (by kernel_rfl) (by kernel_rfl) (by kernel_rfl) (by kernel_rfl))
  (by kernel_rfl) (by kernel_rfl) (by kernel_rfl) rfl rfl Tryz.underlying4 (λds hl=>by
   match ds,hl with
   |[_,_],_=>rfl) rfl (auH LC) at8
theorem topWhole_holds:Rows.TopWholeSaid:=
 OpenClaim.holds_of_wide 4 Tryz.f4 rfl rfl rfl rfl rfl rfl rfl ⟨rfl,rfl,rfl,rfl,rfl⟩ rfl rfl rfl rfl rfl (by kernel_rfl) Tryz.func4 Wd
  (of_decide_eq_true (by kernel_rfl)) (by unfold Func.isWrapper;first |(rw[if_pos (by decide+kernel)];kernel_rfl) |(rw[if_neg (by decide+kernel)];exact⟨rfl,rfl⟩))
  (λos started H enc _=>lifted os started H enc)
#print axioms topWhole_holds
end Go.Proofs.YtfljhldgncdifaaGreat
