/- TopWays: for every input the law returns true, and each argument reads as it did. Without conditions. -/
import Derived.Test.YtfljhldgncdifaaGreatVF
import Derived.Test.YtfljhldgncdifaaGreatVJ6a
import Derived.Test.YtfljhldgncdifaaGreatVJ6b
import Derived.Test.YtfljhldgncdifaaGreatVJ6c
import Derived.Test.YtfljhldgncdifaaGreatVJ6d
import Derived.Test.YtfljhldgncdifaaGreatVA
import Derived.Test.YtfljhldgncdifaaGreatVB
import Derived.Test.YtfljhldgncdifaaGreatVC
import Derived.Test.YtfljhldgncdifaaGreatVD
import Derived.Test.YtfljhldgncdifaaGreatVE
import Derived.Test.YtfljhldgncdifaaGreatRows
import Derived.WalkKit
import Derived.ProofKit
import Derived.OpenShut
import Derived.Below
import Derived.JoinedOf
set_option linter.defProp false
set_option linter.unusedSimpArgs false
set_option maxRecDepth 100000
set_option linter.unusedVariables false
open Go.IntKind renaming wrap → c3, i64 → c4
open Decidable renaming decide → c5, not_not → h8
open List renaming getElem?_eq_getElem → c6, getD_eq_getElem?_getD → dd, mem_iff_getElem → dt, mem_singleton → dv, length_set → dT, getElem_mem → e0, length_map → e4, getElem?_append_left → e5, mem_append → e6, replicate → ea, length_eq_zero_iff → ei, getElem?_set_ne → ej, getElem?_set_self → eo, getElem?_map → ev, getElem?_eq_some_iff → ey, mem_or_eq_of_mem_set → ez, length_pos_iff → eE, length_append → eH, length_replicate → ft, getElem?_set → ga, getElem?_append_right → gv, getElem?_eq_none → h5, mem_of_mem_drop → h6, pairwise_iff_getElem → h7, eq_of_mem_replicate → h9, length_singleton → hq, mem_map → hD, any_eq_true → hL, length_drop → hM, length → hQ
open Option renaming some → c7, none → hS
open Int renaming le_refl → dk, toNat_natCast → ef, tmod_eq_of_lt → hI, le_trans → hX
open Bool renaming not_true → ec, not_false → hU
open Sum renaming inl → ee, inr → fe, elim → hB
open Nat renaming not_lt_zero → gb, le_trans → gx, le_refl → gy, add_sub_cancel → hz
open Go.Proofs.Tryz renaming checked → hK, prog → hP
open Ne renaming symm → hY
open List.Pairwise renaming nil → ie
namespace Go.X.T
open Go Go.Aml Go.Top
def dR(p:aE)(b a:aL):aE:={p with bw:=b,bq:=a}
def DS(r:aT)(b:aS)(a:dS):Prop:=a.Tag∈r.aw/\a.an=max 0 (r.aa0 -b.cR)/\a.To=r.aa0+b.cR
inductive fv (m:ak) (kr:List Int) (clock:Int) (rs rd:aS) (r:aT) (hd:List aT) (k:Int) (b0 s0:aL):aL->aL->Prop
 |nil:fv m kr clock rs rd r hd k b0 s0 b0 s0
 |Ls {b s b'} (sg:dS):fv m kr clock rs rd r hd k b0 s0 b s->DS r rs sg->oG (λx x'=>x'=x\/lG m x rd.ai sg.an (min sg.To clock) x') (λx=>x.aa0<=sg.an/\∀p,p∈rd.ai->min sg.To clock<fn x.an p) m sg.Tag b b'->fv m kr clock rs rd r hd k b0 s0 b' s
 |Lt {b s s'} (sg:dS) (bm:ak):fv m kr clock rs rd r hd k b0 s0 b s->DS r rs sg->s.aA≠[]->ki m kr bm->oG (λx x'=>x'=x\/lG bm x rd.ai sg.an (min sg.To clock) x') (λx=>x.aa0<=sg.an/\∀p,p∈rd.ai->min sg.To clock<fn x.an p) bm sg.Tag s s'->fv m kr clock rs rd r hd k b0 s0 b s'
 |abs {b s b'} (tag:Int) (a:dC):fv m kr clock rs rd r hd k b0 s0 b s->tag∉r.aw->nc hd k tag rd a->oG (λx x'=>x'=x\/∃g1,og m x rd.ai a.an (min a.To clock) ((rd.dY+1)*rd.dX) x' g1) (λ_=>False) m tag b b'->fv m kr clock rs rd r hd k b0 s0 b' s
 |Lu {b s s'} (tag:Int) (a:dC) (bm:ak):fv m kr clock rs rd r hd k b0 s0 b s->tag∉r.aw->nc hd k tag rd a->s.aA≠[]->ki m kr bm->oG (λx x'=>x'=x\/∃g1,og bm x rd.ai a.an (min a.To clock) ((rd.dY+1)*rd.dX) x' g1) (λ_=>False) bm tag s s'->fv m kr clock rs rd r hd k b0 s0 b s'
def fv.shape{m:ak}{kr:List Int}{clock:Int}{rs rd:aS}{r:aT}{B:List aT}{k:Int}{t l b s:aL}{n np:Nat}(h:fv m kr clock rs rd r B k t l b s)(j:m.ai.length=np)(A:fM n np t)(y:t.aA≠[])(w:fM n np l):(fM n np b/\b.aA≠[])/\fM n np s/\(s.aA=[]↔l.aA=[]):=by
 induction h with
 |nil=>exact⟨⟨A,y⟩,w,Iff.rfl⟩
 |Ls x _ _ d c=>exact⟨⟨c.1.1.aX (Ro j) d,d.ne⟩,c.2⟩
 |Lt x C _ _ u o d c=>exact⟨c.1,c.2.1.aX (Ro (by rw[o.pl];exact j)) d,⟨λh=>absurd h d.ne,λh=>absurd (c.2.2.2 h) u⟩⟩
 |abs tag a _ _ _ d c=>exact⟨⟨c.1.1.aX (T3 j) d,d.ne⟩,c.2⟩
 |Lu tag a C _ _ _ u o d c=>exact⟨c.1,c.2.1.aX (T3 (by rw[o.pl];exact j)) d,⟨λh=>absurd h d.ne,λh=>absurd (c.2.2.2 h) u⟩⟩
def gj(d a:List cy):Prop:=VA a/\∀b,b∈d->∃c,c∈a/\fX c b.abv b.eB
def gj.refl{a:List cy}(h:VA a):gj a a:=⟨h,λb c=>⟨b,c,rfl,rfl⟩⟩
def gj.trans{j d l:List cy}(h:gj j d)(k:gj d l):gj j l:=⟨k.1,λb o=>by
 obtain⟨a,w,s,x⟩:=h.2 b o;obtain⟨c,u,m,t⟩:=k.2 a w;exact⟨c,u,m.trans s,t.trans x⟩⟩
def QP{a:List cy}(b:VA a)(d g p h:Int):Ok (rk LC a d g p h) λq=>gj a q.1/\(q.2=0->∃i,i∈q.1/\fX i d g)/\(q.2≠0->q.1=a):=WI (apS a d g p h) λq k=>by
 rcases k with⟨f,c⟩ |⟨f,c,j,l⟩
 .exact⟨by rw[c];exact gj.refl b,λb=>absurd b f,λ_=>c⟩
 .exact⟨⟨c,l⟩,λ_=>j,λb=>absurd f b⟩
def aas(a:bA)(r:Int):Prop:=∀(i:Nat) (n:Int),a.af[i]?=c7 r->a.aa2[i]?=c7 n->n=0
structure oP (p:aE) (a:Int) (p':aE):Prop where
 ex:∃b s fl sm bm,p'={p with ao:=cY p.ao a,cI:=fl,bw:=b,bq:=s,bz:=sm}/\fl.length=p.cI.length/\
  kW LC (cY p.ao a) p.bw p.au.aa0=c7 (b,0)/\cP (cY p.ao a)/\gG (λx x'=>mP (cY p.ao a) x p.au.aa0 x') p.bw.aA b.aA/\
  ((p.bq.aA=[]/\s=p.bq)\/(p.bq.aA≠[]/\ki (cY p.ao a) p.aa2.af bm/\gG (λx x'=>mP bm x p.au.aa0 x') p.bq.aA s.aA))/\
  ((p.bz.an=[]/\sm=p.bz)\/(p.bz.an≠[]/\sm.an.length=p.ao.ai.length))
inductive gC (p:aE) (e:bH):aE->Prop
 |wait:e.abv=1->fw p.au->0<=e.A->p.au.aa0+e.A<=2147483648->gC p e {p with au:=x7 p.au e.A}
 |walk (w:bC):e.abv=2->fw p.au->0<=e.A->(0<=e.C/\e.C<=3600)->p.au.aN[e.A.toNat]?=c7 w->w.akw<0->0<=mQ p.au.ao e.B w.abG->aas p.aa2 e.B->gC p e {p with au:={p.au with aN:=p.au.aN.set e.A.toNat ⟨w.abG,e.B,mQ p.au.ao e.B w.abG+e.C⟩}}
 |look (k:Nat) (rd:aS) (x':aB) (r:aT):e.abv=3->e.A=(k:Int)->cf p.au k e.C rd x' r->gC p e {p with au:=x',cq:=p.cq.set k r}
 |JE (k:Nat) (rs rd:aS) (r:aT) (num:Int) (hd:List aT) (x:cZ) (b s:aL):e.abv=4->e.A=(k:Int)->p.au.cn[k]?=c7 num->0<=num->p.cq[k]?=c7 r->kb r->p.au.aQ[k]?=c7 rd->p.au.aQ[r.agX.toNat]?=c7 rs->(∃d,hd=(p.bZ++[r]).drop d)->hd.length<=60->(Sm x.dl/\Sm x.dr)->fv p.ao p.aa2.af p.au.aa0 rs rd r hd (k:Int) p.bw p.bq b s->gC p e {p with bZ:=hd,cW:=x,bw:=b,bq:=s}
 |swap (x:aB) (b s:aL) (w w':bC):e.abv=5->fw p.au->(0<=e.A/\e.A<(p.au.aN.length:Int))->(0<=e.B/\e.B<(p.au.aN.length:Int))->e.A≠e.B->p.au.aN[e.A.toNat]?=c7 w->p.au.aN[e.B.toNat]?=c7 w'->w.abG=w'.abG->x={p.au with aw:=gL e.A e.B p.au.aw,bp:=p.au.bp.map (gL e.A e.B)}->AY p.ao e.A e.B p.au.aa0 p.au.aN.length p.ao.ai.length p.bw b->((p.bq.aA=[]/\s=p.bq)\/∃bm,p.bq.aA≠[]/\ki p.ao p.aa2.af bm/\AY bm e.A e.B p.au.aa0 p.au.aN.length p.ao.ai.length p.bq s)->gC p e {p with au:=x,bw:=b,bq:=s}
 |JD (sm:bQ) (al:List cy):e.abv=6->sm.an.length=p.ao.ai.length->gj p.bS al->(∃a,a∈al/\fX a 1 e.A)->gC p e {p with bz:=sm,bS:=al}
 |guard (k:bA):e.abv=7->k.af=p.aa2.af->k.aa2=p.aa2.aa2.set e.A.toNat 2->k.Out=false->p.aa2.Out=false->ff k->0<=e.A->(∀w,w∈p.au.aN->∀r,p.aa2.af[e.A.toNat]?=c7 r->w.akw≠r)->gC p e {p with aa2:=k}
 |shut (k:bA) (s:aL):e.abv=7->k.af=p.aa2.af->k.aa2=p.aa2.aa2.set e.A.toNat 2->(∀n,n∈k.aa2->n=2)->k.Out=true->p.aa2.Out=false->ff k->0<=e.A->(∀w,w∈p.au.aN->∀r,p.aa2.af[e.A.toNat]?=c7 r->w.akw≠r)->Ff p.ao p.bw p.aa2.af p.au.aa0 p.au.aN.length p.ao.ai.length s->gC p e {p with aa2:=k,bq:=s}
 |xX (st:b7):(e.abv=8\/e.abv=9\/e.abv=10)->mW st->rz p.bM p.aa2 p.bq->gC p e {p with cL:=st}
 |xZ (p':aE):e.abv=11->fw p.au->0<=e.A->(∃r,p.au.ao.af[e.A.toNat]?=c7 r/\r.eN=false)->oP {p with au:={p.au with ao:=cY p.au.ao e.A,aN:=p.au.aN.map (n8 e.A)}} e.A p'->gC p e p'
 |xY (p':aE) (al:List Int) (q:ak×List Int×Int):e.abv=12->(∀x,x∈al->∃a,a∈p.bS/\fX a 2 x)->Pp p.ao {p.bR with dg:=filled p.bz (p.au.aa0+600)} p.bw e.A al p.au.aa0 600 q->fw p.au->0<=e.A->(∃r,p.au.ao.af[e.A.toNat]?=c7 r/\r.eN=false)->oP {p with au:={p.au with ao:=cY p.au.ao e.A,aN:=p.au.aN.map (n8 e.A)}} e.A p'->gC p e p'
 |JF (k:bA) (st:b7):e.abv=13->k.af=p.aa2.af->ff k->k.Out=false->(∀n,n∈k.aa2->n=0)->(st=p.cL/\p.cL.State=0\/st=⟨0,0,0,0⟩)->gC p e {p with aa2:=k,cL:=st,bq:=⟨[]⟩}
structure gi (p:aE) (e:bH) (g:aR) (c:Int):Prop where
 ok:c=0->gC p e g.aI
 iI:c≠0->gj p.bS g.aI.bS
 nm:g.named.length<=768
def gi.same{p:aE}{e:bH}{c:Int}{n np:Nat}(h:dW n np p)(a:c≠0):gi p e ⟨p,[]⟩ c:=⟨λh=>absurd h a,λ_=>gj.refl h.iI,by simp⟩
def gi.bad{p a:aE}{e:bH}{c:Int}{n np:Nat}(h:dW n np p)(j:c≠0)(d:a.bS=p.bS):gi p e ⟨a,[]⟩ c:=⟨λh=>absurd h j,λ_=>by show gj p.bS a.bS;rw[d];exact gj.refl h.iI,by simp⟩
def gi.lP{p a:aE}{e:bH}{c:Int}(j:c=0)(d:gC p e a):gi p e ⟨a,[]⟩ c:=⟨λ_=>d,λh=>absurd j h,by simp⟩
section
variable {n np:Nat}{p:aE}{e:bH}
def Wo(c:dW n np p)(f:e.abv=1):Ok (xR LC ⟨p,[]⟩ e) λj=>∃g b,j=cT g b/\gi p e g b:=by
 unfold xR;refine aD (RE e.A c.kN.fit) λq d=>ae ⟨_,_,rfl,?_⟩
 rcases d with⟨a,_⟩ |⟨a,h,l,i,k⟩
 .exact .bad c a rfl
 .rw[k];exact .lP a (.wait f h l i)
def aku(a:dW n np p)(v:e.abv=2):Ok (yV LC ⟨p,[]⟩ e) λm=>∃g d,m=cT g d/\gi p e g d:=by
 unfold yV;have B:=a.key.1.1;have b:=a.key.2.1;refine aD (O5 (k:=p.aa2) (by omega) (by omega)) λh b=>?_
 rw[contains_eq (by show h.length<=_;have:=b.1;omega),aa];refine aV (λ_=>ae ⟨_,_,rfl,.same a (by decide)⟩) (λt=>?_)
 refine aD (ahi e.A e.B e.C a.kN.fit) λq o=>ae ⟨_,_,rfl,?_⟩
 rcases o with⟨c,_⟩ |⟨c,r,y,u,x,A,s,z,l⟩
 .exact .bad a c rfl
 .rw[l];refine .lP c (.walk x v r y u A s z λi n w j=>?_)
  by_cases f:n=0
  .exact f
  .exact absurd ((b.2 e.B).2 ⟨i,n,w,j,f⟩) t
def anv(a:dW n np p)(j:e.abv=3)(h0:0<=e.A)(k:e.A<max 1 (p.au.aQ.length:Int)):Ok (yT LC ⟨p,[]⟩ e) λm=>∃g f,m=cT g f/\gi p e g f:=by
 unfold yT;refine aD (look_ok (x:=p.au) e.A e.B e.C a.kN.fit (by have:=a.kj;have:=a.jR;omega) h0 k a.kj) λq i=>?_
 rcases i with⟨b,d⟩ |⟨b,c,l,d,h⟩
 .rw[aG b];exact ae ⟨_,_,rfl,.same a b⟩
 .rw[aC b];have r:=(ey.1 h.eZ).1;have o:=a.kn;rw[d,bn];show Ok ((p.cq[c]?).bind λ_=>(p.cq[((c:Nat):Int).toNat]?).bind _) _
  rw[ef,c6 (show c<p.cq.length by omega),aa,aa];exact ae ⟨_,_,rfl,.lP b (.look c l q.1 q.2.1 j d h)⟩
def Zi(c:dW n np p)(i:e.abv=8):Ok (vm LC ⟨p,[]⟩ e) λm=>∃g f,m=cT g f/\gi p e g f:=by
 unfold vm;refine c8 (a:=p.au.aa0) rfl ?_
 refine aD (ao0 (x:=p.bM) (s:=p.cL) (k:=p.aa2) (b:=p.bq) e.A p.au.aa0 (gx c.qx (by decide)) (gx c.key.sm.1 (by decide)) c.lC.se) λq h=>ae ⟨_,_,rfl,?_⟩
 rcases h with⟨d,_⟩ |⟨d,j,o,l⟩
 .exact .bad c d rfl
 .exact .lP d (.xX q.1 (.inl i) j l)
def amE(c:dW n np p)(i:e.abv=9):Ok (wR LC ⟨p,[]⟩ e) λm=>∃g f,m=cT g f/\gi p e g f:=by
 unfold wR;refine c8 (a:=p.au.aa0) rfl ?_
 refine aD (ajE (x:=p.bM) (s:=p.cL) (k:=p.aa2) (b:=p.bq) e.A p.au.aa0 (gx c.qx (by decide)) (gx c.key.sm.1 (by decide)) c.lC.se) λq h=>ae ⟨_,_,rfl,?_⟩
 rcases h with⟨d,_⟩ |⟨d,j,o,l⟩
 .exact .bad c d rfl
 .exact .lP d (.xX q.1 (.inr (.inl i)) j l)
def aeC(c:dW n np p)(i:e.abv=10):Ok (yu LC ⟨p,[]⟩ e) λm=>∃g f,m=cT g f/\gi p e g f:=by
 unfold yu;refine c8 (a:=p.au.aa0) rfl ?_
 refine aD (X1 (x:=p.bM) (s:=p.cL) (k:=p.aa2) (b:=p.bq) p.au.aa0 (c5 (e.B≠0)) (gx c.qx (by decide)) (gx c.key.sm.1 (by decide)) c.lC.se) λq h=>ae ⟨_,_,rfl,?_⟩
 rcases h with⟨d,_⟩ |⟨d,j,o,l⟩
 .exact .bad c d rfl
 .exact .lP d (.xX q.1 (.inr (.inr i)) j l)
end
section
variable {n np:Nat}{p:aE}{e:bH}
def CF{g:aR}(b:cP g.aI.ao)(d:cj 0 ((g.aI.ao.af.length:Int) -1) g.aI.aa2.af)(f:g.aI.aa2.af.length<=1000):Ok (mT LC g) λq=>ki g.aI.ao g.aI.aa2.af ⟨q.1,q.2⟩:=by
 unfold mT;refine aD (acx g.aI.ao g.aI.aa2.af (by show _<=4611686018427387904;omega) (by have:=b.2.1;show _<=4611686018427387904;omega)) λq c=>ae ?_
 rcases c with⟨_,a⟩ |⟨_,a,_⟩
 .exact a
 .exact absurd d (a b)
def apk{a b:List Int}(q:a.length=b.length)(o:b.length<=1000000)(g:bQ×Int)(h:g.1.an=b):Ok (bO (λc:List Int×Int=>uq LC g c.1 c.2) (a,0)) λm=>m.length=a.length:=by
 refine di b.length (λi c=>c.2=(i:Int)/\c.1.length=a.length) _ (λi c k f=>?_) (λc f=>?_) _ ⟨rfl,rfl⟩
 .obtain⟨j,l⟩:=c;obtain⟨rfl,d⟩:=f;dsimp only at d⊢;unfold uq;rw[h,aC,bn,c6 k,aa,bn,ef,c6 (show i<j.length by omega)];simp only[aa];rw[aJ];exact ae ⟨rfl,by rw[dT];exact d⟩
 .obtain⟨j,l⟩:=c;obtain⟨rfl,d⟩:=f;dsimp only at d⊢;unfold uq;rw[h,aG];exact ae d
def aiX(d:dW n np p)(B:e.abv=6):Ok (xy LC ⟨p,[]⟩ e) λh=>∃g k,h=cT g k/\gi p e g k:=by
 have F:=d.gq;have I:=F.1;unfold xy;dsimp only;rw[aJ,cF,aa,de];refine aV (λ_=>?_) (λ_=>ae ⟨_,_,rfl,.same d (by decide)⟩)
 refine c8 (a:=p.au.aa0) rfl ?_
 refine aD (amZ p.ao p.cI [e.A] p.au.aa0 (by show(1:Nat)<=_;decide) (by show _<=4611686018427387904;omega)) λq j=>?_
 by_cases m:q.2.2=0
 rotate_left
 .rw[aC m];exact ae ⟨_,_,rfl,.same d m⟩
 rw[aG (by rw[m];simp)];have z:q.1.length=p.ao.ai.length:=by
  rcases j with j |j
  .exact j.2.1.1
  .exact absurd m j.1
 have y:∀r:List Int,r.length=p.ao.ai.length->Ok ((fP LC (aR.mk ({p with bz:=(bQ.mk q.2.1 r)}:aE) [])).bind λD=>(rk LC p.bS 1 e.A 1 D).bind λx=>c7 (cT (aR.mk ({p with bz:=(bQ.mk q.2.1 r),bS:=x.1}:aE) []) x.2)) λh=>∃g k,h=cT g k/\gi p e g k:=λr A=>by
  refine c8 (a:=p.au.aa0) rfl ?_
  refine aD (QP d.iI 1 e.A 1 p.au.aa0) λi c=>ae ⟨_,_,rfl,⟨λh0=>.JD _ _ B A c.1 (c.2.1 h0),λ_=>c.1,by simp⟩⟩
 by_cases o:0<(p.bz.an.length:Int)
 .rw[aC o];have G:p.bz.an.length=p.ao.ai.length:=by
   rcases d.pq with e |e
   .rw[e] at o;simp at o
   .rw[e,d.gk]
  obtain⟨i,w,c⟩:=ajz p.ao p.cI p.ao p.cI p.bz p.au.aa0
  by_cases s:i.2=0
  .have H:i.1.an.length=p.ao.ai.length:=by
    rcases c with c |c
    .exact c.2.1.1
    .exact absurd s c.1
   obtain⟨h,E,C⟩:=apk (a:=q.1) (b:=i.1.an) (by omega) (by omega) i rfl;have u:((fP LC (⟨p,[]⟩:aR)).bind λt=>(uk LC p.ao p.cI p.ao p.cI p.bz t).bind λf=>bif c5 (f.2≠0) then c7 (fe f.2:(List Int)⊕Int) else(bO (λl:List Int×Int=>uq LC f l.1 l.2) (q.1,0)).bind λv=>c7 (ee v))=c7 (ee h):=by
    refine(dL (a:=p.au.aa0) rfl).trans ?_
    rw[w,aa,aG (by rw[s];simp),E,aa]
   refine c8 u ?_
   exact y h (by rw[C,z])
  .have u:((fP LC (⟨p,[]⟩:aR)).bind λt=>(uk LC p.ao p.cI p.ao p.cI p.bz t).bind λf=>bif c5 (f.2≠0) then c7 (fe f.2:(List Int)⊕Int) else(bO (λl:List Int×Int=>uq LC f l.1 l.2) (q.1,0)).bind λv=>c7 (ee v))=c7 (fe i.2):=by
    refine(dL (a:=p.au.aa0) rfl).trans ?_
    rw[w,aa,aC s]
   refine c8 u ?_
   exact ae ⟨_,_,rfl,.same d s⟩
 .rw[aG o,aa];exact y q.1 z
def aiy{a:List bC}(d:Fit a){g:aR}{e:bH}{r:Int}(h:aj g.aI.aa2.af e.A=c7 r):Dv LC a g e=c7 (a.any λb=>c5 (b.akw=r)):=by
 unfold Dv;have f:Er LC a g e=c7 (gg (λb=>c5 (b.akw=r)) a):=by
  unfold Er;refine fF (P:=λc=>B0 LC c g e) d (λc _=>?_) λi=>rfl
  unfold B0;rw[h,aa]
 rw[f,aa,gm]
def afn{b:List Int}(c:Fit b):zA LC b=c7 (b.any λa=>c5 (a≠2)):=by
 unfold zA;have d:CC LC b=c7 (gg (λa=>c5 (a≠2)) b):=by
  unfold CC;exact fF (P:=λa=>KV LC a) c (λa _=>rfl) λf=>rfl
 rw[d,aa,gm]
def anG(b:dW n np p)(G:e.abv=7):Ok (vA LC ⟨p,[]⟩ e) λN=>∃g F,N=cT g F/\gi p e g F:=by
 have ak:=b.key.1.1;have ad:=b.key.2.1;have X:p.au.aN.length=n:=b.iz;have ah:=b.n3;have j:Fit p.aa2.af:=by show _<=4611686018427387904;omega
 unfold vA;dsimp only;rw[aJ,cF,aa,de];refine aV (λx=>?_) (λ_=>ae ⟨_,_,rfl,.same b (by decide)⟩)
 have C:p.aa2.af[e.A.toNat]?=c7 (p.aa2.af[e.A.toNat]'(by omega)):=c6 _;generalize p.aa2.af[e.A.toNat]'(by omega)=r at C;have L:aj p.aa2.af e.A=c7 r:=by unfold aj;rw[if_pos x.1];exact C
 refine c8 (aiy (by show _<=4611686018427387904;omega) L) ?_
 refine dy (λ_=>ae ⟨_,_,rfl,.same b (by decide)⟩) (λK=>?_)
 have I:∀f,f∈p.au.aN->∀r,p.aa2.af[e.A.toNat]?=c7 r->f.akw≠r:=λf U af l=>by
  rw[C] at l;injection l with l
  subst l;intro c;have:(p.au.aN.any λf=>c5 (f.akw=r))=true:=hL.2 ⟨f,U,decide_eq_true c⟩;rw[K] at this;cases this
 obtain⟨o,S,y⟩:=Dx (k:=p.aa2) e.A 0 1 j;refine c8 (a:=(o.1,o.2)) (by unfold GQ;rw[S,aa]) ?_
 dsimp only;refine aV (λc=>ae ⟨_,_,rfl,.bad b c rfl⟩) (λc=>?_)
 have y:=y.resolve_left λb=>c b.1
 obtain⟨_,Y,_,ac,E,s⟩:=y;have P:ff o.1:=by rw[s];exact Y.move (by decide)
 obtain⟨d,O,t⟩:=Dx (k:=o.1) e.A 1 2 (by rw[s];exact j);refine c8 (a:=(d.1,d.2)) (by unfold J0;rw[O,aa]) ?_
 dsimp only;refine aV (λc=>ae ⟨_,_,rfl,.bad b c rfl⟩) (λQ=>?_)
 have t:=t.resolve_left λb=>Q b.1
 obtain⟨_,_,_,_,_,q⟩:=t;have m:ff d.1:=by rw[q];exact P.move (by decide)
 have v:d.1.af=p.aa2.af:=by rw[q,s]
 have u:d.1.aa2=p.aa2.aa2.set e.A.toNat 2:=by rw[q,s];exact List.set_set _
 have W:d.1.Out=false:=by rw[q]
 rw[afn (by show _<=4611686018427387904;rw[u,dT];omega),aa];refine dy (λ_=>ae ⟨_,_,rfl,.lP rfl (.guard d.1 G v u W E m x.1 I)⟩) (λZ=>?_)
 have D:∀i,i∈d.1.aa2->i=2:=λi ab=>by
  by_cases c:i=2
  .exact c
  .have:(d.1.aa2.any λV=>c5 (V≠2))=true:=hL.2 ⟨i,ab,decide_eq_true c⟩;rw[Z] at this;cases this
 obtain⟨A,M,w⟩:=ap1 (k:=d.1) (by rw[v];exact j);rw[M,aa];refine aV (λc=>ae ⟨_,_,rfl,.bad b c rfl⟩) (λJ=>?_)
 have w:=w.resolve_left λb=>J b.1
 obtain⟨_,_,_,_,h⟩:=w;refine c8 (a:=p.au.aa0) rfl ?_
 have z:A.1.af=p.aa2.af:=by rw[h];exact v
 have ag:=b.mq;have ai:=b.gq.2.1;refine aD (Uw p.ao p.bw A.1.af p.au.aa0 (n:=p.au.aN.length) (np:=p.ao.ai.length) (by omega) (by rw[b.gk];omega) b.lC.be (by rw[z];exact j) (by show _<=4611686018427387904;omega) (by rw[X,b.gk];exact b.hZ.mX) rfl) λT R=>ae ⟨_,_,rfl,?_⟩
 rcases R with⟨B,H⟩ |B
 .rw[z] at H;refine .lP B (.shut A.1 T.1 G z ?_ ?_ ?_ E ?_ x.1 I H)
  .rw[h];exact u
  .rw[h];exact D
  .rw[h]
  .rw[h];exact⟨m.1,m.2.1,m.2.2.1,λ_=>D⟩
 .exact .bad b B rfl
def amp(b:dW n np p)(w:e.abv=5):Ok (yb LC ⟨p,[]⟩ e) λG=>∃g t,G=cT g t/\gi p e g t:=by
 have B:p.au.aN.length=n:=b.iz;have L:=b.n3;have K:=b.mq;have N:=b.key.1.1;unfold yb;refine aD (ZX (x:=p.au) e.A e.B b.kN.fit (by have:=b.kj;have:=b.jR;omega)) λq I=>?_
 rcases I with⟨i,M⟩ |⟨i,D,u,m,r,⟨A,C,s,o,y⟩,f⟩
 .rw[aC i];exact ae ⟨_,_,rfl,.bad b i rfl⟩
 rw[aG (by rw[i];simp)];refine c8 (a:=p.au.aa0) (by unfold fP;rw[f]) ?_
 refine aD (RM p.ao p.bw e.A e.B p.au.aa0 (n:=p.au.aN.length) (np:=p.ao.ai.length) (by omega) (by rw[b.gk];omega) b.lC.be (by rw[B,b.gk];exact b.hZ.mX)) λj h=>?_
 by_cases d:j.2=0
 rotate_left
 .rw[aC d,aa,cond_true];exact ae ⟨_,_,rfl,.bad b d rfl⟩
 have h:=h.resolve_right λb=>b.1 d
 rw[aG (by rw[d];simp)];refine c8 (a:=!c5 (0<((p.bq.aA).length:Int))) rfl ?_
 rw[de];refine Or.elim (Decidable.em (0<((p.bq.aA).length:Int))) (λc=>?_) (λc=>?_)
 rotate_left
 .rw[aG c];refine ae ⟨_,_,rfl,.lP d ?_⟩
  exact .swap q.1 j.1 p.bq A C w D u m r s o y f h.2 (.inl ⟨ei.1 (by omega),rfl⟩)
 rw[aC c]
 .have J:p.bq.aA≠[]:=λF=>by rw[F] at c;simp at c
  refine aD (CF (g:=⟨{p with au:=q.1,bw:=j.1},[]⟩) b.gq b.jY (by show p.aa2.af.length<=_;omega)) λz k=>?_
  refine c8 (a:=p.au.aa0) (by unfold fP;rw[f]) ?_
  have k:ki p.ao p.aa2.af ⟨z.1,z.2⟩:=k;refine aD (RM ⟨z.1,z.2⟩ p.bq e.A e.B p.au.aa0 (n:=p.au.aN.length) (np:=p.ao.ai.length) (by omega) (by rw[b.gk];omega) b.lC.se (by rw[B,b.gk];exact b.je.mX)) λv E=>ae ⟨_,_,rfl,?_⟩
  rcases E with⟨l,H⟩ |⟨l,_⟩
  .exact .lP l (.swap q.1 j.1 v.1 A C w D u m r s o y f h.2 (.inr ⟨_,J,k,H⟩))
  .exact .bad b l rfl
end
section
variable {n np:Nat}{p:aE}{e:bH}
def Uc(c:dW n np p)(b:aB){a:Int}{r:aZ}{nm:List Int}(Q:0<=a)(w:p.ao.af[a.toNat]?=c7 r):Ok (xg LC ⟨{p with au:=b},nm⟩ a) λB=>∃g o,B=cT g o/\(o=0->oP {p with au:=b} a g.aI)/\g.aI.bS=p.bS/\g.named=nm:=by
 have m:=c.lC;have ah:=(ey.1 w).1;have af:=c.uD;have ag:=c.gq.1;have ac:=c.gq.2.1;unfold xg;dsimp only;rw[zS m.fl,aa,mV m.pl,aa,nk m.rd,aa];have R:aj p.ao.af a=c7 r:=by unfold aj;rw[if_pos Q];exact w
 have E:p.cI[a.toNat]?=c7 (p.cI[a.toNat]'(by omega)):=c6 _;generalize p.cI[a.toNat]'(by omega)=f at E;have T:aj p.cI a=c7 f:=by unfold aj;rw[if_pos Q];exact E
 rw[R,aa,w,aa,T,aa,E,aa,aa];have S:ak.mk p.ao.ai (p.ao.af.set a.toNat {r with eN:=true})=cY p.ao a:=by unfold cY;rw[w]
 rw[S];show Ok ((fP LC ⟨{p with au:=b,ao:=cY p.ao a},nm⟩).bind λU=>(kW LC (cY p.ao a) p.bw U).bind _) _
 refine c8 (a:=b.aa0) rfl ?_
 obtain⟨q,K,C⟩:=Gq (cY p.ao a) p.bw b.aa0 m.be (by show p.ao.ai.length<=4611686018427387904;omega);rw[K,aa]
 by_cases l:q.2=0
 rotate_left
 .rw[aC l];exact ae ⟨⟨{p with au:=b,ao:=cY p.ao a,bw:=q.1},nm⟩,q.2,rfl,λc=>absurd c l,rfl,rfl⟩
 rw[aG (by rw[l];simp)];have C:=C.resolve_right λc=>c.1 l
 obtain⟨_,F,_,_,I⟩:=C;have N:kW LC (cY p.ao a) p.bw b.aa0=c7 (q.1,0):=by rw[K, <-l]
 have X:=uF p.ao a;refine c8 (a:=c5 (0<(p.bq.aA.length:Int))) rfl ?_
 have P:∀(h:aL) (k:ak),((p.bq.aA=[]/\h=p.bq)\/(p.bq.aA≠[]/\ki (cY p.ao a) p.aa2.af k/\gG (λY V=>mP k Y b.aa0 V) p.bq.aA h.aA))->
  Ok (bif c5 (0<((p.bz.an).length:Int)) then
  (fP LC ⟨{p with au:=b,ao:=cY p.ao a,bw:=q.1,bq:=h},nm⟩).bind λab=>
  (yg LC (p.cI.set a.toNat (bI.mk 0 0)) p.ao p.cI (cY p.ao a) p.bz ab).bind λs=>
  bif c5 (s.2.2≠0) then
   c7 (cT ⟨{p with au:=b,ao:=cY p.ao a,bw:=q.1,bq:=h,bz:=s.2.1},nm⟩ s.2.2)
  else
   c7 (cT ⟨{p with au:=b,ao:=cY p.ao a,bw:=q.1,bq:=h,cI:=s.1,bz:=s.2.1},nm⟩ 0)
  else
   c7 (cT ⟨{p with au:=b,ao:=cY p.ao a,bw:=q.1,bq:=h,cI:=p.cI.set a.toNat (bI.mk 0 0)},nm⟩ 0)) λB=>∃g o,B=cT g o/\(o=0->oP {p with au:=b} a g.aI)/\g.aI.bS=p.bS/\g.named=nm:=by
   intro h k H;refine aV (λD=>?_) (λD=>?_)
   .refine c8 (a:=b.aa0) rfl ?_
    refine aD (akv p.ao p.cI (cY p.ao a) (p.cI.set a.toNat (bI.mk 0 0)) p.bz b.aa0) λO L=>?_
    refine aV (λi=>ae ⟨_,_,rfl,λc=>absurd c i,rfl,rfl⟩) (λi=>?_)
    have Z:=L.2.resolve_right λc=>i c.1
    refine ae ⟨_,_,rfl,λ_=>⟨q.1,h,O.1,O.2.1,k,rfl,by rw[L.1,dT],N,F,I,H,.inr ⟨λi=>by rw[i] at D;simp at D,Z.2.1.1⟩⟩,rfl,rfl⟩
   .exact ae ⟨_,_,rfl,λ_=>⟨q.1,h,_,p.bz,k,rfl,by rw[dT],N,F,I,H,.inl ⟨ei.1 (show p.bz.an.length=0 by omega),rfl⟩⟩,rfl,rfl⟩
 by_cases x:0<(p.bq.aA.length:Int)
 .rw[aC x];have W:p.bq.aA≠[]:=λi=>by rw[i] at x;simp at x
  obtain⟨z,J,t⟩:=CF (g:=⟨{p with au:=b,ao:=cY p.ao a,bw:=q.1},nm⟩) F (by show cj 0 (((cY p.ao a).af.length:Int) -1) p.aa2.af;rw[X];exact c.jY) (by show p.aa2.af.length<=_;have:=c.key.1.1;omega);have t:ki (cY p.ao a) p.aa2.af ⟨z.1,z.2⟩:=t;obtain⟨v,M,A⟩:=Gq ⟨z.1,z.2⟩ p.bq b.aa0 m.se (by have:=congrArg hQ t.pl;show z.1.length<=4611686018427387904;have ad:z.1.length=p.ao.ai.length:=this;omega)
  by_cases u:v.2=0
  .have y:((mT LC ⟨{p with au:=b,ao:=cY p.ao a,bw:=q.1},nm⟩).bind λj=>(fP LC ⟨{p with au:=b,ao:=cY p.ao a,bw:=q.1},nm⟩).bind λG=>(kW LC (ak.mk j.1 j.2) p.bq G).bind λd=>
    bif c5 (d.2≠0) then c7 (fe (iv ⟨{p with au:=b,ao:=cY p.ao a,bw:=q.1,bq:=d.1},nm⟩ d.2):jk⊕jU) else c7 (ee (fj ⟨{p with au:=b,ao:=cY p.ao a,bw:=q.1,bq:=d.1},nm⟩)))=c7 (ee (fj ⟨{p with au:=b,ao:=cY p.ao a,bw:=q.1,bq:=v.1},nm⟩)):=by
    rw[J,aa];refine(dL (a:=b.aa0) rfl).trans ?_
    rw[M,aa,aG (by rw[u];simp)]
   refine c8 y ?_
   have A:=A.resolve_right λc=>c.1 u
   exact P v.1 ⟨z.1,z.2⟩ (.inr ⟨W,t,A.2.2.2.2⟩)
  .have y:((mT LC ⟨{p with au:=b,ao:=cY p.ao a,bw:=q.1},nm⟩).bind λj=>(fP LC ⟨{p with au:=b,ao:=cY p.ao a,bw:=q.1},nm⟩).bind λG=>(kW LC (ak.mk j.1 j.2) p.bq G).bind λd=>
    bif c5 (d.2≠0) then c7 (fe (iv ⟨{p with au:=b,ao:=cY p.ao a,bw:=q.1,bq:=d.1},nm⟩ d.2):jk⊕jU) else c7 (ee (fj ⟨{p with au:=b,ao:=cY p.ao a,bw:=q.1,bq:=d.1},nm⟩)))=c7 (fe (iv ⟨{p with au:=b,ao:=cY p.ao a,bw:=q.1,bq:=v.1},nm⟩ v.2)):=by
    rw[J,aa];refine(dL (a:=b.aa0) rfl).trans ?_
    rw[M,aa,aC u]
   refine c8 y ?_
   exact ae ⟨⟨{p with au:=b,ao:=cY p.ao a,bw:=q.1,bq:=v.1},nm⟩,v.2,rfl,λc=>absurd c u,rfl,rfl⟩
 .rw[aG x,aa];exact P p.bq p.ao (.inl ⟨ei.1 (by omega),rfl⟩)
def Oc(a:dW n np p){nm:List Int}:Ok (tM LC ⟨p,nm⟩ e) λf=>∃g b,f=cT g b/\(b=0->fw p.au/\0<=e.A/\(∃r,p.au.ao.af[e.A.toNat]?=c7 r/\r.eN=false)/\oP {p with au:={p.au with ao:=cY p.au.ao e.A,aN:=p.au.aN.map (n8 e.A)}} e.A g.aI)/\g.aI.bS=p.bS/\g.named=nm:=by
 unfold tM;refine aD (Uf (x:=p.au) e.A a.kN.fit) λq k=>?_
 rcases k with⟨c,d⟩ |⟨c,d,i,⟨r,h,u⟩,s⟩
 .rw[aC c];exact ae ⟨_,_,rfl,λa=>absurd a c,rfl,rfl⟩
 rw[aG (by rw[c];simp),s];refine aD (Uc a {p.au with ao:=cY p.au.ao e.A,aN:=p.au.aN.map (n8 e.A)} (r:=r) (nm:=nm) i (by rw[<-a.fN];exact h)) λf t=>?_
 obtain⟨g,b,rfl,m,l,j⟩:=t;exact ae ⟨g,b,rfl,λo=>⟨d,i,⟨r,h,u⟩,m o⟩,l,j⟩
def agT(c:dW n np p)(f:e.abv=11):Ok (tM LC ⟨p,[]⟩ e) λb=>∃g a,b=cT g a/\gi p e g a:=WI (Oc c) λb m=>by
 obtain⟨g,a,k,j,d,o⟩:=m;refine⟨g,a,k,λl=>?_,λ_=>by rw[d];exact gj.refl c.iI,by rw[o];simp⟩
 obtain⟨q,h,i,r⟩:=j l;exact .xZ _ f q h i r
def akk(t:VA p.bS):Ok (bO (λc:List Int×Int=>Co LC ⟨p,[]⟩ c.1 c.2) ([],0)) λf=>f.length<=64/\∀a,a∈f->∃b,b∈p.bS/\fX b 2 a:=by
 have m:=t.1;refine di p.bS.length (λi c=>c.2=(i:Int)/\c.1.length<=i/\∀a,a∈c.1->∃b,b∈p.bS/\fX b 2 a) _ (λi c k h=>?_) (λc h=>?_) _ ⟨rfl,gy _,λa d=>by cases d⟩
 .obtain⟨s,r⟩:=c;obtain⟨rfl,j,d⟩:=h;dsimp only at j d⊢;unfold Co;dsimp only;have o:=c6 k;have l:=e0 k;generalize p.bS[i]=b at o l;rw[aC,bn,o,aa,aJ];refine aD (Q:=λf:List Int=>f.length<=i+1/\∀a,a∈f->∃b,b∈p.bS/\fX b 2 a) ?_ λf m=>ae ⟨rfl,m⟩
  refine aV (λq=>?_) (λ_=>ae ⟨by omega,d⟩)
  rw[dm (by decide) (by omega),aa];refine ae ⟨by rw[eH];simp;omega,λa g=>?_⟩
  rcases e6.1 g with g |g
  .exact d a g
  .rw[dv] at g;exact⟨b,l,q,g.symm⟩
 .obtain⟨s,r⟩:=c;obtain⟨rfl,j,d⟩:=h;dsimp only at j d⊢;unfold Co;dsimp only;rw[aG];exact ae ⟨by omega,d⟩
def abh(v:VA p.bS)(d:ak×List Int×Int)(w:d.2.1.length<=768):Ok (bO (λg:nH=>tB LC d ⟨p,[]⟩ (tP p.cq p.bZ p.bB g) (um g)) (jw ⟨p,d.2.1⟩ 0)) λf=>∃c,f=fj ⟨{p with bS:=c},d.2.1⟩/\gj p.bS c:=by
 refine di d.2.1.length (λi g=>∃c,g=jw ⟨{p with bS:=c},d.2.1⟩ (i:Int)/\gj p.bS c) _ (λi g o k=>?_) (λg k=>?_) _ ⟨p.bS,rfl,gj.refl v⟩
 .obtain⟨c,rfl,h⟩:=k;show Ok (tB LC d ⟨p,[]⟩ ⟨{p with bS:=c},d.2.1⟩ (i:Int)) _
  unfold tB;rw[aC,bn,c6 o,aa];refine c8 (a:=p.au.aa0) rfl ?_
  obtain⟨q,s,r⟩:=QP h.1 2 (d.2.1[i]) 2 p.au.aa0;refine c8 s ?_
  have fin:∀j,gj p.bS j->Ok (c7 (ee (jw ⟨{p with bS:=j},d.2.1⟩ (c3 c4 ((i:Int)+1)))):Option (nH⊕jk)) λf=>match f with
   | .inl t=>∃c,t=jw ⟨{p with bS:=c},d.2.1⟩ ((i+1:Nat):Int)/\gj p.bS c
   | .inr b=>∃c,b=fj ⟨{p with bS:=c},d.2.1⟩/\gj p.bS c:=λj u=>by
   rw[aJ];exact ae ⟨j,rfl,u⟩
  by_cases m:q.2=0
  .rw[aC m,aa];exact WI (fin q.1 (h.trans r.1)) λf l=>by cases f <;> exact l
  .rw[aG m,aa];exact WI (fin c h) λf l=>by cases f <;> exact l
 .obtain⟨c,rfl,h⟩:=k;show Ok (tB LC d ⟨p,[]⟩ ⟨{p with bS:=c},d.2.1⟩ (d.2.1.length:Int)) _
  unfold tB;rw[aG];exact ae ⟨c,rfl,h⟩
def af5(c:dW n np p)(F:fw p.au)(C:e.abv=12):Ok (xQ LC ⟨p,[]⟩ e) λo=>∃g j,o=cT g j/\gi p e g j:=by
 have i:=c.lC;have M:=c.gq.1;have I:=c.gq.2.1;have L:0<=p.au.aa0/\p.au.aa0<=2147483648:=F.2.2.2.2.1;unfold xQ;dsimp only;rw[aJ,cF,aa]
 by_cases l:0<=e.A/\e.A<=(p.ao.af.length:Int) -1
 rotate_left
 .rw[decide_eq_false l,hU,cond_true,aa,cond_true];exact ae ⟨_,_,rfl,.same c (by decide)⟩
 rw[decide_eq_true l,ec,cond_false];have G:aj p.ao.af e.A=c7 (p.ao.af[e.A.toNat]'(by omega)):=by unfold aj;rw[if_pos l.1];exact c6 _
 rw[G,aa,aa];refine dy (λ_=>ae ⟨_,_,rfl,.same c (by decide)⟩) (λ_=>?_)
 refine c8 (a:=p.au.aa0) rfl ?_
 rw[aJ,Oo i.sm,aa];refine aD (akk c.iI) λal v=>?_
 refine c8 (a:=p.au.aa0) rfl ?_
 have J:(filled p.bz (p.au.aa0+600)).length<=64:=by
  have K:(filled p.bz (p.au.aa0+600)).length<=p.bz.an.length:=pQ;have s:=c.mq;have w:p.bz.an.length<=64:=by
   rcases c.pq with k |k
   .rw[k];simp
   .omega
  omega
 obtain⟨q,A,h⟩:=Ws (m:=p.ao) (e:={p.bR with dg:=filled p.bz (p.au.aa0+600)}) (b:=p.bw) (a:=e.A) (al:=al) (t:=p.au.aa0) (ahead:=600) i.pl i.rd ⟨c.kI.1.s,by show(filled p.bz (p.au.aa0+600)).length<=4611686018427387904;omega,c.kI.1.h⟩ i.be (by show al.length<=4611686018427387904;have:=v.1;omega);rw[A,aa]
 by_cases d:q.2.2=0
 .rw[aG (by rw[d];decide),aa];rw[aG (by rw[d];simp)];refine aD (Oc (p:=p) (e:=e) c (nm:=q.2.1)) λo r=>?_
  obtain⟨g,j,rfl,s,k,w⟩:=r;refine ae ⟨g,j,rfl,λf=>?_,λ_=>by rw[k];exact gj.refl c.iI,by rw[w];exact h.1⟩
  obtain⟨D,z,y,B⟩:=s f;exact .xY _ al q C v.2 (h.2 d) D z y B
 .by_cases x:q.2.2=46
  .rw[aC x];obtain⟨o,E,u,r,H⟩:=abh c.iI q h.1;refine c8 (a:=fj ⟨{p with bS:=u},q.2.1⟩) ?_ ?_
   .refine(dL E).trans ?_
    rw[r]
    rfl
   .rw[aC d];exact ae ⟨⟨{p with bS:=u},q.2.1⟩,q.2.2,rfl,λf=>absurd f d,λ_=>H,h.1⟩
  .rw[aG x,aa,aC d];exact ae ⟨⟨p,q.2.1⟩,q.2.2,rfl,λf=>absurd f d,λ_=>gj.refl c.iI,h.1⟩
end
section
variable {n np:Nat}{p:aE}{e:bH}
def eL(p:aE)(a:bA)(b:b7):aE:={p with aa2:=a,cL:=b}
def aad(d:b7){f:bA}(h0:ff f)(X:f.af=p.aa2.af)(Y:f.Out=false):Ok (bO (λu:nH=>qm LC ⟨eL p f d,[]⟩ ⟨p,[]⟩ (tP p.cq p.bZ p.bB u) (um u)) (jw ⟨eL p f d,[]⟩ 0)) λc=>(∃k,c=fe (fj ⟨eL p k d,[]⟩)/\ff k/\k.af=p.aa2.af/\k.Out=false/\∀n,n∈k.aa2->n=0)\/∃k g,c=ee (iv ⟨eL p k d,[]⟩ g)/\g≠0:=by
 have ac:=h0.2.1;have ab:=h0.1.1;refine di f.aa2.length (λi u=>∃k,u=jw ⟨eL p k d,[]⟩ (i:Int)/\ff k/\k.af=p.aa2.af/\k.Out=false/\k.aa2.length=f.aa2.length/\∀(b:Nat) n,b<i->k.aa2[b]?=c7 n->n=0) _ (λi u ad L=>?_) (λu L=>?_) _ ⟨f,rfl,h0,X,Y,rfl,λb n s=>by omega⟩
 .obtain⟨k,rfl,t,A,I,K,H⟩:=L;show Ok (qm LC ⟨eL p f d,[]⟩ ⟨p,[]⟩ ⟨eL p k d,[]⟩ (i:Int)) _
  unfold qm;have z:k.aa2[i]?=c7 (k.aa2[i]'(by omega)):=c6 _;generalize k.aa2[i]'(by omega)=v at z;have Z:=t.2.2.1 v (fC z);rw[aC (by show(i:Int)<(f.aa2.length:Int);omega)];show Ok ((aj k.aa2 (i:Int)).bind _) _
  rw[bn,z,aa];have bad:∀(q:bA) (g:Int),g≠0->Ok (c7 (fe (ee (iv ⟨eL p q d,[]⟩ g))):Option (nH⊕(jU⊕jk))) λc=>match c with
   | .inl w=>∃k,w=jw ⟨eL p k d,[]⟩ ((i+1:Nat):Int)/\ff k/\k.af=p.aa2.af/\k.Out=false/\k.aa2.length=f.aa2.length/\∀(b:Nat) n,b<i+1->k.aa2[b]?=c7 n->n=0
   | .inr c=>(∃k,c=fe (fj ⟨eL p k d,[]⟩)/\ff k/\k.af=p.aa2.af/\k.Out=false/\∀n,n∈k.aa2->n=0)\/∃k g,c=ee (iv ⟨eL p k d,[]⟩ g)/\g≠0:=λq g T=>ae (.inr ⟨q,g,rfl,T⟩)
  have fin:∀q:bA,ff q->q.af=p.aa2.af->q.Out=false->q.aa2.length=f.aa2.length->(∀(b:Nat) n,b<i+1->q.aa2[b]?=c7 n->n=0)->Ok (c7 (ee (jw ⟨eL p q d,[]⟩ (c3 c4 ((i:Int)+1)))):Option (nH⊕(jU⊕jk))) λc=>match c with
   | .inl w=>∃k,w=jw ⟨eL p k d,[]⟩ ((i+1:Nat):Int)/\ff k/\k.af=p.aa2.af/\k.Out=false/\k.aa2.length=f.aa2.length/\∀(b:Nat) n,b<i+1->k.aa2[b]?=c7 n->n=0
   | .inr c=>(∃k,c=fe (fj ⟨eL p k d,[]⟩)/\ff k/\k.af=p.aa2.af/\k.Out=false/\∀n,n∈k.aa2->n=0)\/∃k g,c=ee (iv ⟨eL p k d,[]⟩ g)/\g≠0:=λq y C N E D=>by
   rw[aJ];exact ae ⟨q,rfl,y,C,N,E,D⟩
  have P:∀q:bA,ff q->q.af=p.aa2.af->q.Out=false->q.aa2.length=f.aa2.length->(∀(b:Nat) n,b<i->q.aa2[b]?=c7 n->n=0)->(∃x,q.aa2[i]?=c7 x/\(x=0\/x=1))->Ok ((aj q.aa2 (i:Int)).bind λW=>
   (bif c5 (W=1) then
    (vJ LC q (i:Int)).bind λG=>
    bif c5 (G.2≠0) then c7 (fe (iv ⟨eL p G.1 d,[]⟩ G.2)) else c7 (ee (fj ⟨eL p G.1 d,[]⟩))
    else c7 (ee (fj ⟨eL p q d,[]⟩)):Option (jk⊕jU)).bind λV=>
   hB (λU=>c7 (ee (jw (lu p.cq p.bZ p.bB U) (c3 c4 ((i:Int)+1))))) (λQ=>c7 (fe (ee (iv (nT p.cq p.bZ p.bB Q) (nO Q))))) V) λc=>match c with
   | .inl w=>∃k,w=jw ⟨eL p k d,[]⟩ ((i+1:Nat):Int)/\ff k/\k.af=p.aa2.af/\k.Out=false/\k.aa2.length=f.aa2.length/\∀(b:Nat) n,b<i+1->k.aa2[b]?=c7 n->n=0
   | .inr c=>(∃k,c=fe (fj ⟨eL p k d,[]⟩)/\ff k/\k.af=p.aa2.af/\k.Out=false/\∀n,n∈k.aa2->n=0)\/∃k g,c=ee (iv ⟨eL p k d,[]⟩ g)/\g≠0:=λq y C N E D ⟨x,S,af⟩=>by
   rw[bn,S,aa]
   by_cases R:x=1
   .rw[aC R];obtain⟨h,B,J⟩:=Dx (k:=q) (i:Int) 1 0 (by show _<=4611686018427387904;have:=y.1.1;omega);rw[show vJ LC q (i:Int)=c7 h by unfold vJ;rw[B,aa],aa]
    by_cases r:h.2=0
    .rw[aG (by rw[r];simp),aa];obtain⟨_,_,_,_,_,j⟩:=J.resolve_left λM=>M.1 r
     rw[ef] at j;refine WI (fin h.1 (by rw[j];exact y.move (by decide)) (by rw[j];exact C) (by rw[j]) (by rw[j,dT];exact E) λb o s l=>?_) λc m=>by cases c <;> exact m
     rw[j] at l
     by_cases F:i=b
     .subst F;have:(q.aa2.set i 0)[i]?=c7 o:=l;rw[eo (by omega)] at this;injection this with this
      exact this.symm
     .have:(q.aa2.set i 0)[b]?=c7 o:=l;rw[ej F] at this;exact D b o (by omega) this
    .rw[aC r,aa];exact WI (bad h.1 h.2 r) λc m=>by cases c <;> exact m
   .rw[aG R,aa];refine WI (fin q y C N E λb o s l=>?_) λc m=>by cases c <;> exact m
    by_cases F:i=b
    .subst F;rw[S] at l;injection l with l
     omega
    .exact D b o (by omega) l
  by_cases O:v=2
  .rw[aC O];obtain⟨h,B,J⟩:=Dx (k:=k) (i:Int) 2 1 (by show _<=4611686018427387904;have:=t.1.1;omega)
   by_cases r:h.2=0
   .obtain⟨_,_,_,_,_,j⟩:=J.resolve_left λM=>M.1 r
    rw[ef] at j;refine c8 (a:=ee (fj ⟨eL p h.1 d,[]⟩)) ?_ ?_
    .show((qu LC k (i:Int)).bind _)=_
     rw[show qu LC k (i:Int)=c7 h by unfold qu;rw[B,aa],aa,aG (by rw[r];simp)]
     rfl
    .refine WI (P h.1 (by rw[j];exact t.move (by decide)) (by rw[j];exact A) (by rw[j]) (by rw[j,dT];exact K) (λb o s l=>?_) ⟨1,by rw[j];exact eo (by omega),.inr rfl⟩) λc m=>by cases c <;> exact m
     rw[j] at l;have:(k.aa2.set i 1)[b]?=c7 o:=l;rw[ej (by omega)] at this;exact H b o s this
   .refine c8 (a:=fe (iv ⟨eL p h.1 d,[]⟩ h.2)) ?_ ?_
    .show((qu LC k (i:Int)).bind _)=_
     rw[show qu LC k (i:Int)=c7 h by unfold qu;rw[B,aa],aa,aC r]
     rfl
    .exact WI (bad h.1 h.2 r) λc m=>by cases c <;> exact m
  .rw[aG O,aa];exact WI (P k t A I K H ⟨v,z,by omega⟩) λc m=>by cases c <;> exact m
 .obtain⟨k,rfl,t,A,I,K,H⟩:=L;show Ok (qm LC ⟨eL p f d,[]⟩ ⟨p,[]⟩ ⟨eL p k d,[]⟩ (f.aa2.length:Int)) _
  unfold qm;rw[aG (by show ¬(f.aa2.length:Int)<(f.aa2.length:Int);omega)];refine ae (.inl ⟨k,rfl,t,A,I,λo l=>?_⟩)
  obtain⟨b,s,rfl⟩:=dt.1 l;exact H b _ (by omega) (c6 s)
def YJ(c:dW n np p)(M:e.abv=13):Ok (xE LC ⟨p,[]⟩ e) λi=>∃g f,i=cT g f/\gi p e g f:=by
 have R:=c.key.1.1;have L:=c.key.2.1;unfold xE;refine aD (O5 (k:=p.aa2) (by omega) (by omega)) λQ L=>?_
 refine aV (λ_=>ae ⟨_,_,rfl,.same c (by decide)⟩) (λ_=>?_)
 have A:∀(b:b7) (k:bA),(b=p.cL/\p.cL.State=0\/b=⟨0,0,0,0⟩)->ff k->k.af=p.aa2.af->k.Out=false->Ok ((bO (λs=>qm LC ⟨eL p k b,[]⟩ ⟨p,[]⟩ (tP p.cq p.bZ p.bB s) (um s)) (jw ⟨eL p k b,[]⟩ 0)).bind λv=>
  hB (λj=>c7 (cT (nT p.cq p.bZ p.bB j) (nO j))) (λt=>let l:=lu p.cq p.bZ p.bB t;c7 (cT (aR.mk ({l.aI with bq:=(aL.mk ([]:List ay))}:aE) l.named) 0)) v) λi=>∃g f,i=cT g f/\gi p e g f:=λb k r O J F=>by
  refine aD (aad b O J F) λi z=>?_
  rcases z with⟨m,rfl,N,P,E,I⟩ |⟨m,f,rfl,G⟩
  .exact ae ⟨⟨{p with aa2:=m,cL:=b,bq:=⟨[]⟩},[]⟩,0,rfl,.lP rfl (.JF m b M P N E I r)⟩
  .exact ae ⟨⟨eL p m b,[]⟩,f,rfl,.bad c G rfl⟩
 have B:∀b:b7,(b=p.cL/\p.cL.State=0\/b=⟨0,0,0,0⟩)->Ok ((bif p.aa2.Out then
  (vQ LC p.aa2).bind λo=>
  bif c5 (o.2≠0) then c7 (fe (iv ⟨eL p o.1 b,[]⟩ o.2)) else c7 (ee (fj ⟨eL p o.1 b,[]⟩))
  else c7 (ee (fj ⟨eL p p.aa2 b,[]⟩)):Option (jk⊕jU)).bind λH=>
  hB (λK=>
   let D:=lu p.cq p.bZ p.bB K
   (bO (λs=>qm LC D ⟨p,[]⟩ (tP p.cq p.bZ p.bB s) (um s)) (jw D 0)).bind λv=>
    hB (λj=>c7 (cT (nT p.cq p.bZ p.bB j) (nO j))) (λt=>let l:=lu p.cq p.bZ p.bB t;c7 (cT (aR.mk ({l.aI with bq:=(aL.mk ([]:List ay))}:aE) l.named) 0)) v)
   (λC=>c7 (cT (nT p.cq p.bZ p.bB C) (nO C))) H) λi=>∃g f,i=cT g f/\gi p e g f:=λb r=>by
   cases z:p.aa2.Out with
   |false=>
    rw[cond_false,aa];exact A b p.aa2 r c.key rfl z
   |true=>
    rw[cond_true];obtain⟨d,q,w⟩:=Zw (k:=p.aa2) (by show _<=4611686018427387904;omega);rw[q,aa]
    by_cases h:d.2=0
    .rw[aG (by rw[h];simp),aa];obtain⟨_,_,u⟩:=w.resolve_left λc=>c.1 h
     exact A b d.1 r (by rw[u];exact⟨c.key.1,c.key.2.1,c.key.2.2.1,λc=>by cases c⟩) (by rw[u]) (by rw[u])
    .rw[aC h,aa];exact ae ⟨⟨eL p d.1 b,[]⟩,d.2,rfl,.bad c h rfl⟩
 by_cases y:p.cL.State=0
 .rw[aG (by show ¬p.cL.State≠0;simp[y]),aa];exact B p.cL (.inl ⟨rfl,y⟩)
 .rw[aC y];obtain⟨d,q,w⟩:=Yc (x:=p.bM) (s:=p.cL) p.au.aa0 (gx c.qx (by decide))
  by_cases h:d.2=0
  .refine c8 (a:=ee (fj ⟨eL p p.aa2 d.1,[]⟩)) ?_ ?_
   .refine(dL (a:=p.au.aa0) rfl).trans ?_
    refine(dL q).trans ?_
    rw[aG (by rw[h];simp)]
    rfl
   .exact B d.1 (.inr (w.resolve_left λc=>c.1 h).2)
  .refine c8 (a:=fe (iv ⟨eL p p.aa2 d.1,[]⟩ d.2)) ?_ ?_
   .refine(dL (a:=p.au.aa0) rfl).trans ?_
    refine(dL q).trans ?_
    rw[aC h]
    rfl
   .exact ae ⟨⟨eL p p.aa2 d.1,[]⟩,d.2,rfl,.bad c h rfl⟩
end
section
variable {n np:Nat}{p:aE}{e:bH}
structure tN (n np:Nat) (p:aE) (rd:aS):Prop where
 n3:n<=3
 mq:np<=64
 gq:cP p.ao
 gk:p.ao.ai.length=np
 jY:cj 0 ((p.ao.af.length:Int) -1) p.aa2.af
 OG:p.aa2.af.length<=12
 hZ:fM n np p.bw
 bne:p.bw.aA≠[]
 je:fM n np p.bq
 BV:Fit rd.ai
 OF:0<=rd.dY/\rd.dY<=10
 OH:1<=rd.dX/\rd.dX<=600
def aiU{k h:aS}{r:aT}{w:List aT}{t:Int}(d:tN n np p h){i:List Int}{b c:aL}(l:fv p.ao p.aa2.af p.au.aa0 k h r w t p.bw p.bq b c){f:dS}(D:DS r k f):Ok (A5 LC ⟨dR p b c,i⟩ f h) λy=>∃s m,y=ol ⟨dR p s m,i⟩ f h/\fv p.ao p.aa2.af p.au.aa0 k h r w t p.bw p.bq s m:=by
 obtain⟨⟨Q,V⟩,M,U⟩:=l.shape d.gk d.hZ d.bne d.je;have W:=d.gq.1;have J:Fit p.ao.ai:=by show _<=4611686018427387904;omega
 unfold A5;obtain⟨q,O,L⟩:=LG p.ao b f.Tag h.ai f.an (min f.To p.au.aa0) (Q.pR d.n3 d.mq) d.BV J;refine c8 (a:=La f h ⟨dR p b c,i⟩ q.1 q.2) ?_ ?_
 .unfold uX;refine(dL (a:=p.au.aa0) rfl).trans ?_
  refine(dL O).trans rfl
 have H:∀j,fv p.ao p.aa2.af p.au.aa0 k h r w t p.bw p.bq j c->Ok ((ra LC ⟨dR p j c,i⟩).bind λK=>bif (!K) then c7 (ol ⟨dR p j c,i⟩ f h) else(mT LC ⟨dR p j c,i⟩).bind λE=>(uX LC f h ⟨dR p j c,i⟩ (ak.mk E.1 E.2) c).bind λo=>
  let F:=F7 o
  let G:=HJ o
  let x:=G2 o
  let S:=IB o
  let T:=HV o
  bif c5 (T=0) then c7 (ol (aR.mk ({x.aI with bq:=S}:aE) x.named) F G) else c7 (ol x F G)) λy=>∃s m,y=ol ⟨dR p s m,i⟩ f h/\fv p.ao p.aa2.af p.au.aa0 k h r w t p.bw p.bq s m:=λj B=>by
  refine c8 (a:=c5 (0<(c.aA.length:Int))) rfl ?_
  rw[de];refine aV (λC=>?_) (λ_=>ae ⟨j,c,rfl,B⟩)
  have N:c.aA≠[]:=λl=>by rw[l] at C;simp at C
  refine aD (CF (g:=⟨dR p j c,i⟩) d.gq d.jY (by show p.aa2.af.length<=_;have:=d.OG;omega)) λz u=>?_
  have u:ki p.ao p.aa2.af ⟨z.1,z.2⟩:=u;have X:z.1.length=p.ao.ai.length:=congrArg hQ u.pl;obtain⟨v,P,I⟩:=LG ⟨z.1,z.2⟩ c f.Tag h.ai f.an (min f.To p.au.aa0) (M.pR d.n3 d.mq) d.BV (by show z.1.length<=4611686018427387904;omega);refine c8 (a:=La f h ⟨dR p j c,i⟩ v.1 v.2) ?_ ?_
  .unfold uX;refine(dL (a:=p.au.aa0) rfl).trans ?_
   refine(dL P).trans rfl
  show Ok (bif c5 (v.2=0) then c7 (ol ⟨dR p j v.1,i⟩ f h) else c7 (ol ⟨dR p j c,i⟩ f h)) _
  refine aV (λR=>ae ⟨j,v.1,rfl,?_⟩) (λ_=>ae ⟨j,c,rfl,B⟩)
  exact .Lt f _ B D N u (I.resolve_right λd=>d.1 R).2
 by_cases A:q.2=0
 .refine c8 (a:=qI ⟨dR p q.1 c,i⟩) ?_ (H q.1 (.Ls f l D (L.resolve_right λd=>d.1 A).2))
  show(bif c5 (q.2=0) then _ else _)=_
  rw[aC A]
  rfl
 .refine c8 (a:=qI ⟨dR p b c,i⟩) ?_ (H b l)
  show(bif c5 (q.2=0) then _ else _)=_
  rw[aG A]
  rfl
def afb{u d:aS}{r:aT}{s:List aT}{l:Int}(c:tN n np p d){j:List Int}{b f:aL}(m:fv p.ao p.aa2.af p.au.aa0 u d r s l p.bw p.bq b f){h:Int}{a:dC}(E:h∉r.aw)(J:nc s l h d a):Ok (zg LC ⟨dR p b f,j⟩ h d a (min a.To p.au.aa0)) λx=>∃t o,x=nJ ⟨dR p t o,j⟩ h d a (min a.To p.au.aa0)/\fv p.ao p.aa2.af p.au.aa0 u d r s l p.bw p.bq t o:=by
 obtain⟨⟨T,X⟩,P,W⟩:=m.shape c.gk c.hZ c.bne c.je;have Y:=c.gq.1;have L:Fit p.ao.ai:=by show _<=4611686018427387904;omega
 unfold zg;obtain⟨q,R,O⟩:=Sj p.ao b h d.ai a.an (min a.To p.au.aa0) ((d.dY+1)*d.dX) (T.pR c.n3 c.mq) c.BV L;refine c8 (a:=Ft h d a (min a.To p.au.aa0) q.1 q.2) ?_ ?_
 .unfold uQ;refine(dL (LV c.OF c.OH)).trans ?_
  refine(dL R).trans rfl
 have I:∀i,fv p.ao p.aa2.af p.au.aa0 u d r s l p.bw p.bq i f->Ok ((ra LC ⟨dR p i f,j⟩).bind λV=>bif (!V) then c7 (nJ ⟨dR p i f,j⟩ h d a (min a.To p.au.aa0)) else(mT LC ⟨dR p i f,j⟩).bind λC=>(uQ LC h d a (min a.To p.au.aa0) (ak.mk C.1 C.2) f).bind λk=>
  let G:=Gy k
  let F:=Ib k
  let B:=HF k
  let D:=I2 k
  let N:=Ir k
  let M:=JK k
  bif c5 (M=0) then c7 (nJ (aR.mk ({ (dR p i f) with bq:=N}:aE) j) G F B D) else c7 (nJ ⟨dR p i f,j⟩ G F B D)) λx=>∃t o,x=nJ ⟨dR p t o,j⟩ h d a (min a.To p.au.aa0)/\fv p.ao p.aa2.af p.au.aa0 u d r s l p.bw p.bq t o:=λi A=>by
  refine c8 (a:=c5 (0<(f.aA.length:Int))) rfl ?_
  rw[de];refine aV (λH=>?_) (λ_=>ae ⟨i,f,rfl,A⟩)
  have Q:f.aA≠[]:=λm=>by rw[m] at H;simp at H
  refine aD (CF (g:=⟨dR p i f,j⟩) c.gq c.jY (by show p.aa2.af.length<=_;have:=c.OG;omega)) λz w=>?_
  have w:ki p.ao p.aa2.af ⟨z.1,z.2⟩:=w;have Z:z.1.length=p.ao.ai.length:=congrArg hQ w.pl;obtain⟨v,S,K⟩:=Sj ⟨z.1,z.2⟩ f h d.ai a.an (min a.To p.au.aa0) ((d.dY+1)*d.dX) (P.pR c.n3 c.mq) c.BV (by show z.1.length<=4611686018427387904;omega);refine c8 (a:=Ft h d a (min a.To p.au.aa0) v.1 v.2) ?_ ?_
  .unfold uQ;refine(dL (LV c.OF c.OH)).trans ?_
   refine(dL S).trans rfl
  show Ok (bif c5 (v.2=0) then c7 (nJ ⟨dR p i v.1,j⟩ h d a (min a.To p.au.aa0)) else c7 (nJ ⟨dR p i f,j⟩ h d a (min a.To p.au.aa0))) _
  refine aV (λU=>ae ⟨i,v.1,rfl,?_⟩) (λ_=>ae ⟨i,f,rfl,A⟩)
  exact .Lu h a _ A E J Q w (K.resolve_right λc=>c.1 U).2
 by_cases y:q.2=0
 .refine c8 (a:=qI ⟨dR p q.1 f,j⟩) ?_ (I q.1 (.abs h a m E J (O.resolve_right λc=>c.1 y).2))
  show(bif c5 (q.2=0) then _ else _)=_
  rw[aC y]
  rfl
 .refine c8 (a:=qI ⟨dR p b f,j⟩) ?_ (I b m)
  show(bif c5 (q.2=0) then _ else _)=_
  rw[aG y]
def aa6{rs c:aS}{r:aT}{d:Nat}(f:tN n np p c){nm:List Int}{b j:aL}(l:fv p.ao p.aa2.af p.au.aa0 rs c r p.bZ (d:Int) p.bw p.bq b j){g:Int}(A:g∉r.aw)(t:p.au.aQ[d]?=c7 c)(y:∀c,c∈p.au.aQ->0<=c.cR/\c.cR<=60)(D:∀r,r∈p.bZ->Fit r.aw):Ok (Eb LC ⟨dR p b j,nm⟩ (d:Int) g) λs=>∃k i,s=mf ⟨dR p k i,nm⟩/\fv p.ao p.aa2.af p.au.aa0 rs c r p.bZ (d:Int) p.bw p.bq k i:=by
 unfold Eb;show Ok ((aj p.au.aQ (d:Int)).bind _) _
 rw[bn,t,aa];show Ok ((xp LC p.au.aQ (d:Int) g p.bZ).bind _) _
 refine aD (ag3 (rs:=p.au.aQ) (d:Int) g p.bZ y D) λq u=>?_
 have x:(bif c5 (q.2≠0) then c7 true else c7 (c5 ((q.1.length:Int)=0)):Option Bool)=c7 (c5 (q.2≠0\/(q.1.length:Int)=0)):=ew rfl;refine c8 x ?_
 refine aV (λ_=>ae ⟨b,j,rfl,l⟩) (λo=>?_)
 have w:q.2=0:=by by_cases f:q.2=0;exact f;exact absurd (.inl f) o
 have G:q.1.length≠0:=λf=>o (.inr (by omega))
 obtain⟨_,E,h,B⟩:=u.2 w;rw[ef,t] at h;injection h with h
 subst h;have F:=u.1;rw[aJ,show((q.1.length:Int) -1)=((q.1.length -1:Nat):Int) by omega,bn];have v:=c6 (show q.1.length -1<q.1.length by omega);have m:=e0 (show q.1.length -1<q.1.length by omega);generalize q.1[q.1.length -1]=a at v m;rw[v,aa];refine c8 (a:=p.au.aa0) rfl ?_
 refine aV (λ_=>ae ⟨b,j,rfl,l⟩) (λ_=>?_)
 refine aD (afb f l A (B a m)) λs C=>?_
 obtain⟨k,i,rfl,z⟩:=C;exact ae ⟨k,i,rfl,z⟩
end
section
variable {n np:Nat}{p:aE}{e:bH}
def am8{j f:aS}{r:aT}{k:Nat}(x:tN n np p f)(c:List dS×Int)(y:c.1.length<=20)(w:∀a,a∈c.1->DS r j a):Ok (bO (λa:ug=>sC LC c (Q2 a) (Qd a) (R9 a)) (Cb ⟨p,[]⟩ f 0)) λs=>∃d g,s=mf ⟨dR p d g,[]⟩/\fv p.ao p.aa2.af p.au.aa0 j f r p.bZ (k:Int) p.bw p.bq d g:=by
 refine di c.1.length (λi a=>∃d g,a=Cb ⟨dR p d g,[]⟩ f (i:Int)/\fv p.ao p.aa2.af p.au.aa0 j f r p.bZ (k:Int) p.bw p.bq d g) _ (λi a m h=>?_) (λa h=>?_) _ ⟨p.bw,p.bq,rfl,.nil⟩
 .obtain⟨b,a,rfl,l⟩:=h;show Ok (sC LC c ⟨dR p b a,[]⟩ f (i:Int)) _
  unfold sC;have q:=c6 m;have o:=e0 m;generalize c.1[i]=u at q o;rw[aC,bn,q,aa,aa];refine aD (aiU x l (w u o)) λs v=>?_
  obtain⟨d,g,rfl,t⟩:=v;rw[aJ];exact ae ⟨d,g,rfl,t⟩
 .obtain⟨b,a,rfl,l⟩:=h;show Ok (sC LC c ⟨dR p b a,[]⟩ f (c.1.length:Int)) _
  unfold sC;rw[aG];exact ae ⟨b,a,rfl,l⟩
def acB{l g:aS}{r:aT}{k:Nat}(D:tN n np p g)(j:List Int)(I:j.length<=1000){q o:aL}(B:fv p.ao p.aa2.af p.au.aa0 l g r p.bZ (k:Int) p.bw p.bq q o)(A:p.au.aQ[k]?=c7 g)(y:∀g,g∈p.au.aQ->0<=g.cR/\g.cR<=60)(H:∀r,r∈p.bZ->Fit r.aw)(G:Fit r.aw)(z:e.A=(k:Int)):Ok (bO (λf:uy=>uN LC j (r,0) e (Si f) (LF f)) (uZ ⟨dR p q o,[]⟩ 0)) λh=>∃c d,h=mf ⟨dR p c d,[]⟩/\fv p.ao p.aa2.af p.au.aa0 l g r p.bZ (k:Int) p.bw p.bq c d:=by
 refine di j.length (λi f=>∃c d,f=uZ ⟨dR p c d,[]⟩ (i:Int)/\fv p.ao p.aa2.af p.au.aa0 l g r p.bZ (k:Int) p.bw p.bq c d) _ (λi f C t=>?_) (λf t=>?_) _ ⟨q,o,rfl,B⟩
 .obtain⟨b,f,rfl,m⟩:=t;show Ok (uN LC j (r,0) e ⟨dR p b f,[]⟩ (i:Int)) _
  unfold uN;dsimp only;have w:=c6 C;generalize j[i]=F at w;rw[aC,bn,w,aa,contains_eq G,aa,de];have fin:∀c d,fv p.ao p.aa2.af p.au.aa0 l g r p.bZ (k:Int) p.bw p.bq c d->Ok (c7 (ee (uZ ⟨dR p c d,[]⟩ (c3 c4 ((i:Int)+1)))):Option (uy⊕rY)) λh=>match h with
   | .inl d=>∃c x,d=uZ ⟨dR p c x,[]⟩ ((i+1:Nat):Int)/\fv p.ao p.aa2.af p.au.aa0 l g r p.bZ (k:Int) p.bw p.bq c x
   | .inr h=>∃c d,h=mf ⟨dR p c d,[]⟩/\fv p.ao p.aa2.af p.au.aa0 l g r p.bZ (k:Int) p.bw p.bq c d:=λc d s=>by
   rw[aJ];exact ae ⟨c,d,rfl,s⟩
  by_cases u:F∈r.aw
  .rw[aC u,aa];exact WI (fin b f m) λh v=>by cases h <;> exact v
  .rw[aG u,z];obtain⟨h,E,c,d,rfl,s⟩:=aa6 (nm:=[]) D m u A y H;refine c8 (a:=mf ⟨dR p c d,[]⟩) ?_ ?_
   .exact(dL E).trans rfl
   .exact WI (fin c d s) λh v=>by cases h <;> exact v
 .obtain⟨b,f,rfl,m⟩:=t;show Ok (uN LC j (r,0) e ⟨dR p b f,[]⟩ (j.length:Int)) _
  unfold uN;rw[aG];exact ae ⟨b,f,rfl,m⟩
def aoV(a:dW n np p)(t:fw p.au)(ac:e.abv=4):Ok (wP LC ⟨p,[]⟩ e) λw=>∃g K,w=dp g K/\gi p e g K:=by
 have s:=a.lC;have V:=a.n3;have ax:=a.kn;have ai:=a.jR;have aq:p.au.cn.length=p.au.aQ.length:=t.2.2.2.2.2.1;unfold wP;dsimp only;rw[aJ,cF,aa,de];refine aV (λah=>?_) (λ_=>ae ⟨_,_,rfl,.same a (by decide)⟩)
 obtain⟨k,D⟩:∃k:Nat,e.A=(k:Int):=⟨e.A.toNat,by omega⟩;have G:k<p.cq.length:=by omega
 rw[D,bn,bn,ef];have y:=c6 (show k<p.au.cn.length by omega);generalize p.au.cn[k]=num at y;have A:=c6 G;have H:=e0 G;generalize p.cq[k]=r at A H;have o:=c6 (show k<p.au.aQ.length by omega);have N:=e0 (show k<p.au.aQ.length by omega);generalize p.au.aQ[k]=b at o N;have aw:=a.rX r H;have h:Fit r.aw:=by show _<=4611686018427387904;omega
 rw[y,aa];refine aV (λ_=>ae ⟨_,_,rfl,.same a (by decide)⟩) (λao=>?_)
 rw[A,aa,aa,WJ h]
 by_cases m:kb r
 rotate_left
 .rw[if_neg m,aa];exact ae ⟨_,_,rfl,.same a (by decide)⟩
 rw[if_pos m,aa,aG (by simp)];rw[anb m,aa,aG (by simp)];dsimp only;obtain⟨j,X,J⟩:=abN (x:=p.cW) (r:=r) s.il s.io h;rw[X,aa];refine aV (λc=>ae ⟨_,_,rfl,.bad a c rfl⟩) (λc=>?_)
 have au:=a.uB;rw[dm (by decide) (by omega),aa];have ak:(p.bZ++[r]).length=p.bZ.length+1:=by simp
 rw[aJ,l8 (by omega) (by omega) (by omega),aa];generalize al:max 0 (((p.bZ++[r]).length:Int) -60)=f;have Y:((p.bZ++[r]).drop f.toNat).take ((((p.bZ++[r]).length:Int)).toNat -f.toNat)=(p.bZ++[r]).drop f.toNat:=List.take_of_length_le (by rw[hM];omega);rw[Y];have E:∀b,b∈p.au.aQ->0<=b.cR/\b.cR<=60:=λb S=>(t.1.2.2 b S).2.2.2.2
 obtain⟨w,af,L⟩:=Xo (l:=p.au.aQ) (r:=r) h E;rw[af,aa];refine aV (λc=>ae ⟨_,_,rfl,.bad a c rfl⟩) (λc=>?_)
 obtain⟨_,R,Z,ad⟩:=L.2 (h8.1 c);rw[bn,o,aa];have u:=t.1.2.2 b N;have av:=t.1.1.1;have Q:tN n np ({p with bZ:=(p.bZ++[r]).drop f.toNat,cW:=j.1}:aE) b:=⟨V.2,a.mq,a.gq,a.gk,a.jY,by have:=a.key.1.1;show p.aa2.af.length<=12;omega,a.hZ,a.bne,a.je,by have:=u.2.1.len (by omega);show b.ai.length<=4611686018427387904;omega,u.2.2.2.1,u.2.2.1⟩;refine aD (am8 (k:=k) Q w L.1 ad) λz v=>?_
 obtain⟨i,ar,rfl,O⟩:=v;obtain⟨⟨ab,B⟩,an,ap⟩:=O.shape a.gk a.hZ a.bne a.je;have F:i.aA[0]?=c7 (i.aA[0]'(eE.2 B)):=c6 _;have M:=e0 (eE.2 B);generalize i.aA[0]'(eE.2 B)=C at F M;have am:=(ab.mX C M).2;show Ok ((aj i.aA 0).bind λT=>(cc LC T.aw).bind _) _
 rw[show aj i.aA 0=c7 C from F,aa,bV (cX (n:=3) (by omega) (by decide)),aa];refine aD (acB (k:=k) Q C.aw (by omega) O o E (λq d=>?_) h D) λz v=>?_
 .have:q∈p.bZ++[r]:=h6 d;rcases e6.1 this with d |d
  .have:=a.rW q d;show _<=4611686018427387904;omega
  .rw[dv] at d;rw[d];exact h
 obtain⟨I,P,rfl,W⟩:=v;have U:=s.il;have ag:=s.io;refine ae ⟨⟨{p with bZ:=(p.bZ++[r]).drop f.toNat,cW:=j.1,bw:=I,bq:=P},[]⟩,0,rfl,.lP rfl (.JE k R b r num _ j.1 I P ac D y (by omega) A m o Z ⟨_,rfl⟩ ?_ ⟨?_,?_⟩ W)⟩
 .rw[hM];omega
 .show j.1.dl.length<=_;rw[J.1];exact U
 .show j.1.dr.length<=_;rw[J.2.1];exact ag
def oP.mD{x:aB}{a:Int}{o:aE}(h:dW n np p)(C:ny x)(B:x.ao=cY p.ao a)(F:x.aN.length=n)(t:x.aQ=p.au.aQ)(G:x.bp.length=x.aQ.length)(A:oP {p with au:=x} a o):dW n np o:=by
 obtain⟨b,s,fl,sm,E,rfl,j,_,w,u,d,c⟩:=A.ex;have l:=uF p.ao a;have y:fM n np b:=h.hZ.renew (m:=cY p.ao a) h.gk u;refine {n3:=h.n3,kN:=C,fN:=B,gq:=w,gk:=h.gk,iz:=F,jR:=by show x.aQ.length<=3;rw[t];exact h.jR,kj:=G,uD:=?_,kI:=h.kI,qx:=h.qx,kn:=by show p.cq.length=x.aQ.length;rw[t];exact h.kn,rX:=h.rX,uB:=h.uB,rW:=h.rW,int:=h.int,hZ:=y,bne:=?_,je:=?_,pq:=?_,key:=h.key,jY:=?_,iI:=h.iI,log:=h.log,uC:=h.uC}
 .show fl.length=(cY p.ao a).af.length
  rw[l];have j:fl.length=p.cI.length:=j;rw[j];exact h.uD
 .show b.aA≠[]
  intro D;have:=u.1;rw[D] at this;exact h.bne (ei.1 this.symm)
 .rcases d with⟨_,d⟩ |⟨_,d,c⟩
  .show fM n np s
   rw[d];exact h.je
  .exact h.je.renew (m:=E) (by rw[d.pl];exact h.gk) c
 .rcases c with⟨c,k⟩ |⟨_,k⟩
  .show sm.an=[]\/sm.an.length=np
   rw[k];exact .inl c
  .exact .inr (by show sm.an.length=np;rw[k];exact h.gk)
 .show cj 0 (((cY p.ao a).af.length:Int) -1) p.aa2.af
  rw[l];exact h.jY
def gC.mD{F:aE}(h:dW n np p)(E:gC p e F):dW n np F:=by
 have ht:=h.kN;cases E with
 |wait _ _ _ _=>exact {h with kN:={ht with pe:=by show(p.au.aN.map _).length<=_;rw[e4];exact ht.pe},fN:=h.fN,iz:=by show(p.au.aN.map _).length=n;rw[e4];exact h.iz,jR:=h.jR,kj:=h.kj,kn:=h.kn}
 |walk O _ _ _ _ _ _ _ _=>exact {h with kN:={ht with pe:=by show(p.au.aN.set _ _).length<=_;rw[dT];exact ht.pe},fN:=h.fN,iz:=by show(p.au.aN.set _ _).length=n;rw[dT];exact h.iz,jR:=h.jR,kj:=h.kj,kn:=h.kn}
 |look k rd X r _ _ u=>
  obtain⟨row,Y,yp,a,o,l,m,D,j,y,B,U,H,t⟩:=u.ex;rw[t];have L:=ht.mr row (fC l);refine {h with kN:={ht with nu:=by show(p.au.cn.set _ _).length<=_;rw[dT];exact ht.nu,lo:=by show(p.au.cf.set _ _).length<=_;rw[dT];exact ht.lo,mi:=by show(p.au.bp.set _ _).length<=_;rw[dT];exact ht.mi,mr:=λq c=>?_},fN:=h.fN,iz:=h.iz,jR:=h.jR,kj:=by show(p.au.bp.set _ _).length=_;rw[dT];exact h.kj,kn:=by show(p.cq.set _ _).length=_;rw[dT];exact h.kn,rX:=λq c=>?_}
  .rcases ez c with c |rfl
   .exact ht.mr q c
   .show _<=_;rw[j.len];exact L
  .rcases ez c with c |rfl
   .exact h.rX q c
   .rw[H,uP];have:=j.tl;have:=h.iz;have:=h.n3;omega
 |JE k rs rd r num E x b s _ _ _ _ aa I _ _ M S t G=>
  obtain⟨⟨N,P⟩,K,W⟩:=G.shape h.gk h.hZ h.bne h.je;refine {h with uB:=S,rW:=λq c=>?_,int:=t,hZ:=N,bne:=P,je:=K}
  obtain⟨d,rfl⟩:=M;rcases e6.1 (h6 c) with c |c
  .exact h.rW q c
  .rw[dv] at c;have:=I.2.2.2.1;rw[c];omega
 |swap x b s O Z _ _ _ _ _ _ _ _ t w j=>
  rw[t];have A:=h.iz;have C:=h.gk;rw[A,C] at w;have sl:∀{o:List Int},(gL e.A e.B o).length=o.length:=by
   intro o;unfold gL
   split
   .rw[dT,dT]
   .rfl
  refine {h with kN:={ht with tg:=by show(gL _ _ _).length<=_;rw[sl];exact ht.tg,mi:=by show(p.au.bp.map _).length<=_;rw[e4];exact ht.mi,mr:=λq c=>?_},fN:=h.fN,iz:=h.iz,jR:=h.jR,kj:=by show(p.au.bp.map _).length=_;rw[e4];exact h.kj,kn:=h.kn,hZ:=h.hZ.Np w,bne:=?_,je:=?_}
  .obtain⟨J,Q,rfl⟩:=hD.1 c;show _<=_;rw[sl];exact ht.mr J Q
  .obtain⟨o,l,m,_⟩:=w.ex;exact l.e m
  .rcases j with⟨_,j⟩ |⟨V,_,_,j⟩
   .show fM n np s;rw[j];exact h.je
   .rw[A,C] at j;exact h.je.Np j
 |JD sm al _ j T _=>exact {h with pq:=.inr (by rw[j];exact h.gk),iI:=T.1}
 |guard k _ l m D _ y _ _=>exact {h with key:=y,jY:=by show cj 0 _ k.af;rw[l];exact h.jY}
 |shut k s _ l m D y _ B _ _ j=>
  rw[h.iz,h.gk] at j;exact {h with key:=B,jY:=by show cj 0 _ k.af;rw[l];exact h.jY,je:=h.hZ.shut j}
 |xX st _ _ _=>exact {h with}
 |xZ _ _ R _ _ u=>exact oP.mD (x:={p.au with ao:=cY p.au.ao e.A,aN:=p.au.aN.map (n8 e.A)}) (a:=e.A) h {ht with rd:=by show(cY p.au.ao e.A).af.length<=_;rw[uF];exact ht.rd,pe:=by show(p.au.aN.map _).length<=_;rw[e4];exact ht.pe} (by show cY p.au.ao e.A=_;rw[h.fN]) (by show(p.au.aN.map _).length=n;rw[e4];exact h.iz) rfl h.kj u
 |xY _ al q _ _ _ R _ _ u=>exact oP.mD (x:={p.au with ao:=cY p.au.ao e.A,aN:=p.au.aN.map (n8 e.A)}) (a:=e.A) h {ht with rd:=by show(cY p.au.ao e.A).af.length<=_;rw[uF];exact ht.rd,pe:=by show(p.au.aN.map _).length<=_;rw[e4];exact ht.pe} (by show cY p.au.ao e.A=_;rw[h.fN]) (by show(p.au.aN.map _).length=n;rw[e4];exact h.iz) rfl h.kj u
 |JF k st _ l m _ _ _=>exact {h with key:=m,jY:=by show cj 0 _ k.af;rw[l];exact h.jY,je:=.nil}
end
def gC.log{p c:aE}{e:bH}(h:gC p e c):c.bB=p.bB:=by
 cases h with
 |xZ _ _ _ _ _ a=>obtain⟨b,s,fl,sm,d,rfl,_⟩:=a.ex;rfl
 |xY _ _ _ _ _ _ _ _ _ a=>obtain⟨b,s,fl,sm,d,rfl,_⟩:=a.ex;rfl
 |_=>rfl
inductive oA (p:aE) (e:bH):aE->Int->Prop
 |no (c:Int):c=2\/c=6->oA p e p c
 |bad (al:List cy) (nm:List Int) (c:Int):c≠0->gj p.bS al->nm.length<=768->p.bB.length<200->fw p.au->oA p e {p with bS:=al,bB:=p.bB++[⟨e,p.au.aa0,c,nm⟩]} c
 |zI (q:aE) (nm:List Int):gC p e q->nm.length<=768->p.bB.length<200->fw p.au->oA p e {q with bB:=p.bB++[⟨e,p.au.aa0,0,nm⟩]} 0
def acG{a:Int}(b:1<=a/\a<=13):lK a=c7 (102+a.toNat):=by
 unfold lK;rw[aC b.1,aC b.2]
def akh{a:Int}(d:¬(1<=a/\a<=13)):lK a=hS:=by
 unfold lK
 by_cases b:1<=a
 .rw[aC b,aG (λc=>d ⟨b,c⟩)]
 .rw[aG b]
def J6(p:aE)(a:bH):Prop:=a.abv=3->0<=a.A/\a.A<max 1 (p.au.aQ.length:Int)
def Wq{B z:Nat}{p:aE}{d:bH}(j:dW B z p)(t:J6 p d):Ok (w7 LC p d) λr=>oA p d r.1 r.2:=by
 have u:=j.lC;unfold w7;refine aV (λ_=>ae (.no 2 (.inl rfl))) (λD=>?_)
 obtain⟨v,A,y⟩:=U4 j;rw[A,aa];cases v with
 |false=>exact ae (.no 6 (.inr rfl))
 |true=>
  have n:=y rfl;rw[ec,cond_false,aiT u,aa];dsimp only;rw[show SD (IW p)=p from rfl];refine c8 (a:=lK d.abv) rfl ?_
  have k:∀{q:Option qz},Ok q (λb=>∃g c,b=dp g c/\gi p d g c)->Ok (q.bind λb=>c7 (dp (iS b) (iJ b))) λb=>∃g c,b=dp g c/\gi p d g c:=λ{q} j=>aD j λb i=>by
   obtain⟨g,c,rfl,f⟩:=i;exact ae ⟨g,c,rfl,f⟩
  refine aD (Q:=λb:qz=>∃g c,b=dp g c/\gi p d g c) ?_ λb i=>?_
  .by_cases h:1<=d.abv/\d.abv<=13
   rotate_left
   .rw[akh h];exact ae ⟨⟨p,[]⟩,55,rfl,.same j (by decide)⟩
   rw[acG h];have:d.abv=1\/d.abv=2\/d.abv=3\/d.abv=4\/d.abv=5\/d.abv=6\/d.abv=7\/d.abv=8\/d.abv=9\/d.abv=10\/d.abv=11\/d.abv=12\/d.abv=13:=by omega
   rcases this with h |h |h |h |h |h |h |h |h |h |h |h |h <;> rw[h]
   .show Ok (((xR LC (aR.mk p ([]:List Int)) d).bind λe=>c7 (dp (fR e) (fT e))).bind λb=>c7 (dp (iS b) (iJ b))) _
    exact k (aD (Wo j h) λb i=>by obtain⟨g,c,rfl,f⟩:=i;exact ae ⟨g,c,rfl,f⟩)
   .show Ok (((yV LC (aR.mk p ([]:List Int)) d).bind λe=>c7 (dp (fR e) (fT e))).bind λb=>c7 (dp (iS b) (iJ b))) _
    exact k (aD (aku j h) λb i=>by obtain⟨g,c,rfl,f⟩:=i;exact ae ⟨g,c,rfl,f⟩)
   .show Ok (((yT LC (aR.mk p ([]:List Int)) d).bind λe=>c7 (dp (fR e) (fT e))).bind λb=>c7 (dp (iS b) (iJ b))) _
    exact k (aD (anv j h (t h).1 (t h).2) λb i=>by obtain⟨g,c,rfl,f⟩:=i;exact ae ⟨g,c,rfl,f⟩)
   .show Ok (((wP LC (aR.mk p ([]:List Int)) d).bind λe=>c7 (dp (iS e) (iJ e))).bind λb=>c7 (dp (iS b) (iJ b))) _
    exact k (aD (aoV j n h) λb i=>by obtain⟨g,c,rfl,f⟩:=i;exact ae ⟨g,c,rfl,f⟩)
   .show Ok (((yb LC (aR.mk p ([]:List Int)) d).bind λe=>c7 (dp (fR e) (fT e))).bind λb=>c7 (dp (iS b) (iJ b))) _
    exact k (aD (amp j h) λb i=>by obtain⟨g,c,rfl,f⟩:=i;exact ae ⟨g,c,rfl,f⟩)
   .show Ok (((xy LC (aR.mk p ([]:List Int)) d).bind λe=>c7 (dp (fR e) (fT e))).bind λb=>c7 (dp (iS b) (iJ b))) _
    exact k (aD (aiX j h) λb i=>by obtain⟨g,c,rfl,f⟩:=i;exact ae ⟨g,c,rfl,f⟩)
   .show Ok (((vA LC (aR.mk p ([]:List Int)) d).bind λe=>c7 (dp (fR e) (fT e))).bind λb=>c7 (dp (iS b) (iJ b))) _
    exact k (aD (anG j h) λb i=>by obtain⟨g,c,rfl,f⟩:=i;exact ae ⟨g,c,rfl,f⟩)
   .show Ok (((vm LC (aR.mk p ([]:List Int)) d).bind λe=>c7 (dp (fR e) (fT e))).bind λb=>c7 (dp (iS b) (iJ b))) _
    exact k (aD (Zi j h) λb i=>by obtain⟨g,c,rfl,f⟩:=i;exact ae ⟨g,c,rfl,f⟩)
   .show Ok (((wR LC (aR.mk p ([]:List Int)) d).bind λe=>c7 (dp (fR e) (fT e))).bind λb=>c7 (dp (iS b) (iJ b))) _
    exact k (aD (amE j h) λb i=>by obtain⟨g,c,rfl,f⟩:=i;exact ae ⟨g,c,rfl,f⟩)
   .show Ok (((yu LC (aR.mk p ([]:List Int)) d).bind λe=>c7 (dp (fR e) (fT e))).bind λb=>c7 (dp (iS b) (iJ b))) _
    exact k (aD (aeC j h) λb i=>by obtain⟨g,c,rfl,f⟩:=i;exact ae ⟨g,c,rfl,f⟩)
   .show Ok (((tM LC (aR.mk p ([]:List Int)) d).bind λe=>c7 (dp (fR e) (fT e))).bind λb=>c7 (dp (iS b) (iJ b))) _
    exact k (aD (agT j h) λb i=>by obtain⟨g,c,rfl,f⟩:=i;exact ae ⟨g,c,rfl,f⟩)
   .show Ok (((xQ LC (aR.mk p ([]:List Int)) d).bind λe=>c7 (dp (fR e) (fT e))).bind λb=>c7 (dp (iS b) (iJ b))) _
    exact k (aD (af5 j n h) λb i=>by obtain⟨g,c,rfl,f⟩:=i;exact ae ⟨g,c,rfl,f⟩)
   .show Ok (((xE LC (aR.mk p ([]:List Int)) d).bind λe=>c7 (dp (fR e) (fT e))).bind λb=>c7 (dp (iS b) (iJ b))) _
    exact k (aD (YJ j h) λb i=>by obtain⟨g,c,rfl,f⟩:=i;exact ae ⟨g,c,rfl,f⟩)
  .obtain⟨g,c,rfl,f⟩:=i;rw[show iS (dp g c)=g from rfl,show iJ (dp g c)=c from rfl];have w:p.bB.length<200:=by omega
   by_cases l:c=0
   .rw[aG (by rw[l];simp),aa];show Ok ((bj 72 g.aI.bB ([(dK.mk d p.au.aa0 c g.named)]:List dK)).bind λo=>c7 (({g.aI with bB:=o}:aE),c)) _
    have x:=f.ok l;rw[x.log,dm (by decide) (by omega),aa,l];exact ae (.zI g.aI g.named x f.nm w n)
   .rw[aC l,abE u,aa];have fin:∀m,gj p.bS m->Ok ((bj 72 p.bB ([(dK.mk d p.au.aa0 c g.named)]:List dK)).bind λo=>c7 (({p with bS:=m,bB:=o}:aE),c)) λr=>oA p d r.1 r.2:=λm C=>by
     rw[dm (by decide) (by omega),aa];exact ae (.bad m g.named c l C f.nm w n)
    by_cases s:c=46
    .refine c8 (a:=lR {p with bS:=g.aI.bS}) ?_ (fin _ (f.iI l))
     rw[aC s,aa]
     rfl
    .refine c8 (a:=lR p) ?_ (fin p.bS (gj.refl j.iI))
     rw[aG s,aa]
     rfl
def oA.mD{n np:Nat}{p l:aE}{e:bH}{c:Int}(h:dW n np p)(w:oA p e l c):dW n np l:=by
 have lg:∀{q:aE} {x:dK},dW n np q->p.bB.length<200->x.ll.length<=768->dW n np {q with bB:=p.bB++[x]}:=by
  intro q x m y o;have a1:(p.bB++[x]).length<=200:=by rw[eH];simp;omega
  have u:∀d,d∈p.bB++[x]->d.ll.length<=768:=by
   intro d a;rcases e6.1 a with a |a
   .exact h.uC d a
   .rw[dv] at a;rw[a];exact o
  exact {m with log:=a1,uC:=u}
 cases w with
 |no c _=>exact h
 |bad al nm c _ t k j _=>exact lg (q:={p with bS:=al}) {h with iI:=t.1} j k
 |zI q nm s k j _=>exact lg (s.mD h) j k
def DI(l:List Int)(b:List Int)(a:Int):Prop:=b=l/\0<=a/\a<=400
def DI.init{l:List Int}:DI l l 0:=⟨rfl,dk _,by decide⟩
section
variable {l:List Int}
def lW(m:l.length<=400){d:bD}(j:DI l d.L d.At)(n:Int)(o:n<=1000000):Ok (eO LC d n) λr=>DI l r.1 r.2.1/\0<=r.2.2/\(r.2.2<n\/r.2.2=0):=by
 obtain⟨b,a,e⟩:=j;unfold eO;refine aV (λ_=>ae ⟨⟨b,a,e⟩,dk _,.inr rfl⟩) (λi=>?_)
 rw[b] at i⊢;rw[aJ (n:=d.At+1),show d.At+1 -1=d.At by omega,aJ,jF 0 a (by omega),aa];generalize l.getD d.At.toNat 0=c;refine aD (Q:=λr:Int=>0<=r/\(r<n\/r=0)) ?_ λr g=>ae ⟨⟨rfl,by dsimp only;omega,by dsimp only;omega⟩,g⟩
 unfold Ie;refine aV (λ_=>ae ⟨dk _,.inr rfl⟩) (λk=>?_)
 rw[D7 (by omega),aa];have f:=Int.tmod_lt_of_pos c (show 0<n by omega);have p:=Int.lt_tmod_of_pos c (show 0<n by omega);refine aV (λh=>?_) (λh=>ae ⟨by omega,.inl f⟩)
 rw[aJ];exact ae ⟨by omega,.inl (by omega)⟩
def ir(c:l.length<=400){d:bD}(f:DI l d.L d.At)(a:Int)(g:1<=a)(e:a<=1000000):Ok (eO LC d a) λr=>DI l r.1 r.2.1/\0<=r.2.2/\r.2.2<a:=WI (lW c f a e) λr b=>⟨b.1,b.2.1,by have:=b.2.2;omega⟩
def p9(b:l.length<=400){d:bD}(f:DI l d.L d.At)(a:Int)(c:a<=1000000):Ok (mK LC d a) λr=>DI l r.1 r.2.1:=by
 unfold mK;exact aD (lW b f a c) λr e=>ae e.1
def iM(e:l.length<=400){d:bD}(g:DI l d.L d.At)(vs:List Int)(i:1<=vs.length)(h:vs.length<=1000):Ok (gQ LC d vs) λr=>DI l r.1 r.2.1/\r.2.2∈vs:=by
 unfold gQ;refine aD (ir e g (vs.length:Int) (by omega) (by omega)) λr a=>?_
 have c:vs[r.2.2.toNat]?=c7 (vs[r.2.2.toNat]'(by omega)):=c6 _;have b:vs[r.2.2.toNat]'(by omega)∈vs:=e0 _;generalize vs[r.2.2.toNat]'(by omega)=f at c b;rw[show aj vs r.2.2=c7 f by unfold aj;rw[if_pos a.2.1];exact c,aa];exact ae ⟨a.1,b⟩
def adN(t:l.length<=400)(m:Nat)(C:m<=7){v:List Int}{k:Int}(A:DI l v k):Ok (bO (λa:List Int×Int×List bP×List aZ×Int=>Bt LC (m:Int) (bD.mk a.1 a.2.1) (ak.mk a.2.2.1 a.2.2.2.1) a.2.2.2.2) (v,k,[],[],0)) λc=>DI l c.1 c.2.1/\c.2.2.1.length=m/\(∀p,p∈c.2.2.1->-100<=p.eU/\p.eU<=0)/\c.2.2.2=[]:=by
 refine di m (λi a=>a.2.2.2.2=(i:Int)/\DI l a.1 a.2.1/\a.2.2.1.length=i/\(∀p,p∈a.2.2.1->-100<=p.eU/\p.eU<=0)/\a.2.2.2.1=[]) _ (λi a B n=>?_) (λa n=>?_) _ ⟨rfl,A,rfl,(λp e=>by cases e),rfl⟩
 .obtain⟨b,k,s,x,z⟩:=a;obtain⟨rfl,h,f,g,j⟩:=n;dsimp only at h f g j⊢;unfold Bt
  try dsimp only
  rw[aC];refine aD (Q:=λc:List Int×Int×List bP=>DI l c.1 c.2.1/\c.2.2.length=i+1/\∀p,p∈c.2.2->-100<=p.eU/\p.eU<=0) ?_ λc o=>?_
  .refine aD (ir t h 4 (by decide) (by decide)) λr w=>?_
   have u:∀b:Bool,∀p,p∈s++[bP.mk (c3 c4 ((-10)*r.2.2)) b]->-100<=p.eU/\p.eU<=0:=λb p e=>by
    rcases e6.1 e with e |e
    .exact g p e
    .rw[dv] at e;rw[e,aJ];dsimp only;omega
   refine aV (λ_=>?_) (λ_=>?_)
   .rw[dm (by decide) (by omega),aa];exact ae ⟨w.1,by simp[f],u _⟩
   .refine aD (p9 t (d:=⟨r.1,r.2.1⟩) w.1 6 (by decide)) λq y=>?_
    rw[dm (by decide) (by omega),aa];exact ae ⟨y,by simp[f],u _⟩
  .rw[aJ];exact ae ⟨rfl,o.1,o.2.1,o.2.2,j⟩
 .obtain⟨b,k,s,x,z⟩:=a;obtain⟨rfl,h,f,g,j⟩:=n;dsimp only at h f g j⊢;unfold Bt
  try dsimp only
  rw[aG];exact ae ⟨h,f,g,j⟩
def Mv{c:Nat}{d:List aZ}{r:aZ}(f:∀r,r∈d->jx c r)(e:jx c r):∀b,b∈d++[r]->jx c b:=λb a=>by
 rcases e6.1 a with a |a
 .exact f b a
 .rw[dv] at a;rw[a];exact e
def adQ(k:l.length<=400)(n:Nat)(D:2<=n/\n<=7){s:List Int}{j:Int}{ps:List bP}(x:DI l s j):Ok (bO (λa:List Int×Int×List bP×List aZ×Int=>By LC (n:Int) (bD.mk a.1 a.2.1) (ak.mk a.2.2.1 a.2.2.2.1) a.2.2.2.2) (s,j,ps,[],1)) λc=>DI l c.1 c.2.1/\c.2.2.1=ps/\c.2.2.2.length=n -1/\∀r,r∈c.2.2.2->jx n r:=by
 refine di (n -1) (λi a=>a.2.2.2.2=((i+1:Nat):Int)/\DI l a.1 a.2.1/\a.2.2.1=ps/\a.2.2.2.1.length=i/\∀r,r∈a.2.2.2.1->jx n r) _ (λi a C o=>?_) (λa o=>?_) _ ⟨rfl,x,rfl,rfl,λp z=>by cases z⟩
 .obtain⟨b,j,v,u,w⟩:=a;obtain⟨rfl,f,rfl,e,h⟩:=o;dsimp only at f e h⊢;unfold By
  try dsimp only
  rw[aC];refine aD (ir k f (min ((i+1:Nat):Int) 2) (by omega) (by omega)) λr y=>?_
  refine aD (iM k (d:=⟨r.1,r.2.1⟩) y.1 [11,59,119,4] (by decide) (by decide)) λg q=>?_
  refine aD (iM k (d:=⟨g.1,g.2.1⟩) q.1 [9,3,19] (by decide) (by decide)) λm t=>?_
  have B:4<=g.2.2/\g.2.2<=119:=by have:=q.2;simp at this;omega
  have A:3<=m.2.2/\m.2.2<=19:=by have:=t.2;simp at this;omega
  rw[dm (by decide) (by omega),aa,aJ (n:=((i+1:Nat):Int) -1) (by omega) (by omega),aJ (n:=((i+1:Nat):Int) -1 -r.2.2) (by omega) (by omega),aJ (n:=1+g.2.2),aJ (n:=1+m.2.2),aJ];refine ae ⟨by dsimp only;omega,t.1,rfl,by simp[e],Mv h ⟨?_,?_,?_,?_⟩⟩
  .dsimp only;omega
  .dsimp only;omega
  .dsimp only;omega
  .dsimp only;omega
 .obtain⟨b,j,v,u,w⟩:=a;obtain⟨rfl,f,rfl,e,h⟩:=o;dsimp only at f e h⊢;unfold By
  try dsimp only
  rw[aG];exact ae ⟨f,rfl,e,h⟩
def Wc(e:l.length<=400)(n:Nat)(K:2<=n/\n<=7){v:List Int}{k:Int}{ps:List bP}{rs:List aZ}{h:Int}(E:DI l v k)(x:0<=h/\h<=1000)(p:1<=rs.length/\rs.length<=10)(z:∀r,r∈rs->jx n r):Ok (bO (λa:List Int×Int×List bP×List aZ×Int=>HR LC (n:Int) (bD.mk a.1 a.2.1) (ak.mk a.2.2.1 a.2.2.2.1) a.2.2.2.2) (v,k,ps,rs,h)) λc=>DI l c.1 c.2.1/\c.2.2.1=ps/\(1<=c.2.2.2.length/\c.2.2.2.length<=10)/\∀r,r∈c.2.2.2->jx n r:=by
 refine oa (λa=>(0<=a.2.2.2.2/\a.2.2.2.2<=h)/\DI l a.1 a.2.1/\a.2.2.1=ps/\(1<=a.2.2.2.1.length/\a.2.2.2.1.length<=10)/\∀r,r∈a.2.2.2.1->jx n r) (λa=>a.2.2.2.2.toNat) _ (λa D=>?_) _ ⟨⟨x.1,dk _⟩,E,rfl,p,z⟩
 obtain⟨b,k,A,rs,i⟩:=a;obtain⟨h0,o,rfl,m,j⟩:=D;dsimp only at h0 o m j⊢;unfold HR
 try dsimp only
 have y:(bif c5 (0<i) then c7 (c5 ((rs.length:Int)<10)) else c7 false)=c7 (c5 (0<i/\(rs.length:Int)<10)):=fm rfl;refine c8 y ?_
 refine aV (λG=>?_) (λ_=>ae ⟨o,rfl,m,j⟩)
 refine aD (ir e o (n:Int) (by omega) (by omega)) λr p=>?_
 refine aD (ir e (d:=⟨r.1,r.2.1⟩) p.1 (n:Int) (by omega) (by omega)) λu F=>?_
 refine aD (iM e (d:=⟨u.1,u.2.1⟩) F.1 [11,59,199] (by decide) (by decide)) λg s=>?_
 refine aD (iM e (d:=⟨g.1,g.2.1⟩) s.1 [9,3] (by decide) (by decide)) λf w=>?_
 refine aD (ir e (d:=⟨f.1,f.2.1⟩) w.1 5 (by decide) (by decide)) λq C=>?_
 refine aD (p9 e (d:=⟨q.1,q.2.1⟩) C.1 6 (by decide)) λI B=>?_
 have J:11<=g.2.2/\g.2.2<=199:=by have:=s.2;simp at this;omega
 have H:3<=f.2.2/\f.2.2<=9:=by have:=w.2;simp at this;omega
 refine aD (Q:=λc:List bP×List aZ=>c.1=A/\(1<=c.2.length/\c.2.length<=10)/\∀r,r∈c.2->jx n r) ?_ λc t=>?_
 .refine aV (λL=>?_) (λ_=>ae ⟨rfl,m,j⟩)
  rw[dm (by decide) (by omega),aa,aJ (n:=1+g.2.2),aJ (n:=1+f.2.2)];refine ae ⟨rfl,by simp;omega,Mv j ⟨?_,?_,?_,?_⟩⟩
  .dsimp only;omega
  .dsimp only;omega
  .dsimp only;omega
  .dsimp only;omega
 .rw[aJ];exact ae ⟨⟨by dsimp only;omega,B,t.1,t.2⟩,by dsimp only;omega⟩
structure CJ (m:ak):Prop where
 ok:cP m
 np:2<=m.ai.length/\m.ai.length<=7
 nr:1<=m.af.length/\m.af.length<=10
def amM(e:l.length<=400)(u:DI l l 0):Ok (zN LC ⟨l,0⟩) λr=>DI l r.1 r.2.1/\CJ r.2.2:=by
 unfold zN;refine aD (ir e (d:=⟨l,0⟩) u 6 (by decide) (by decide)) λr v=>?_
 refine aD (Q:=λc:Int=>2<=c/\c<=7) ?_ λc x=>?_
 .refine aV (λ_=>ae (by decide)) (λ_=>?_)
  rw[aJ];exact ae (by omega)
 obtain⟨b,rfl⟩:∃b:Nat,c=(b:Int):=⟨c.toNat,by omega⟩;refine aD (adN e b (by omega) v.1) λk i=>?_
 have s:k.2.2.2=[]:=i.2.2.2;rw[s];refine aD (adQ e b (by omega) (ps:=k.2.2.1) i.1) λh g=>?_
 refine aD (ir e (d:=⟨h.1,h.2.1⟩) g.1 4 (by decide) (by decide)) λw t=>?_
 refine aD (Wc e b (by omega) (ps:=h.2.2.1) (rs:=h.2.2.2) t.1 (by omega) (by have:=g.2.2.1;omega) g.2.2.2) λa f=>?_
 have m:a.2.2.1=k.2.2.1:=f.2.1.trans g.2.1;have o:a.2.2.1.length=b:=by rw[m];exact i.2.1
 refine ae ⟨f.1,⟨by show a.2.2.1.length<=64;omega,by show a.2.2.2.length<=128;have:=f.2.2.1;omega,λp j=>?_,λq n=>?_⟩,by show 2<=a.2.2.1.length/\a.2.2.1.length<=7;omega,f.2.2.1⟩
 .have j:p∈a.2.2.1:=j;rw[m] at j;have:=i.2.2.1 p j;omega
 .show jx a.2.2.1.length q
  rw[o];exact f.2.2.2 q n
def apv(u:l.length<=400)(h:Nat)(B:h<=64){d:bD}(x:DI l d.L d.At):Ok (A9 LC d (h:Int)) λr=>DI l r.1 r.2.1/\cj 0 ((h:Int) -1) r.2.2:=by
 unfold A9;refine aD (Q:=λe:List Int×Int×List Int=>DI l e.1 e.2.1/\cj 0 ((h:Int) -1) e.2.2) ?_ λe p=>ae p
 refine di h (λi c=>c.2.2.2=(i:Int)/\DI l c.1 c.2.1/\c.2.2.1.length<=i/\cj 0 ((i:Int) -1) c.2.2.1) _ (λi c A o=>?_) (λc o=>?_) _ ⟨rfl,x,gy _,cj.nil⟩
 .obtain⟨b,t,a,w⟩:=c;obtain⟨rfl,g,k,f⟩:=o;dsimp only at g k f⊢;unfold HH
  try dsimp only
  rw[aC];refine aD (ir u (d:=⟨b,t⟩) g 3 (by decide) (by decide)) λr y=>?_
  refine aD (Q:=λe:List Int=>e.length<=i+1/\cj 0 (((i+1:Nat):Int) -1) e) ?_ λe p=>?_
  .refine aV (λ_=>?_) (λ_=>ae ⟨by omega,λq m=>?_⟩)
   .rw[dm (by decide) (by omega),aa];refine ae ⟨by simp;omega,λq m=>?_⟩
    simp only[eH,hq] at m
    by_cases s:q<a.length
    .have:=f q s;have j:(a++[(i:Int)]).getD q 0=a.getD q 0:=by rw[dd,e5 s,dd]
     have n:(a++[(i:Int)]).getD (q -1) 0=a.getD (q -1) 0:=by rw[dd,e5 (by omega),dd]
     rw[j,n];exact⟨this.1,by omega,this.2.2⟩
    .have v:q=a.length:=by omega
     have j:(a++[(i:Int)]).getD q 0=(i:Int):=by rw[dd,v,gv (gy _)];simp
     rw[j];refine⟨by omega,by omega,λz=>?_⟩
     have:=f (q -1) (by omega);have n:(a++[(i:Int)]).getD (q -1) 0=a.getD (q -1) 0:=by rw[dd,e5 (by omega),dd]
     rw[n];omega
   .have:=f q m;exact⟨this.1,by omega,this.2.2⟩
  .rw[aJ];exact ae ⟨rfl,y.1,p⟩
 .obtain⟨b,t,a,w⟩:=c;obtain⟨rfl,g,k,f⟩:=o;dsimp only at g k f⊢;unfold HH
  try dsimp only
  rw[aG];exact ae ⟨g,f⟩
def als(h:l.length<=400){f:ak}(I:CJ f){d:bD}(F:DI l d.L d.At):Ok (BX LC d f) λr=>DI l r.1 r.2.1/\r.2.2.length<=3/\∀a,a∈r.2.2->lS f.ai.length a:=by
 have L:=I.np;unfold BX;refine aD (ir h F 4 (by decide) (by decide)) λr H=>?_
 refine aD (Q:=λe:List Int×Int×List aS=>DI l e.1 e.2.1/\e.2.2.length<=3/\∀a,a∈e.2.2->lS f.ai.length a) ?_ λe s=>ae s
 refine oa (λc=>(0<=c.2.2.2/\c.2.2.2+(c.2.2.1.length:Int)<=3)/\DI l c.1 c.2.1/\∀a,a∈c.2.2.1->lS f.ai.length a) (λc=>c.2.2.2.toNat) _ (λc D=>?_) _ ⟨(by simp;omega),H.1,(λa o=>by cases o)⟩
 obtain⟨b,z,A,C⟩:=c;obtain⟨h0,q,m⟩:=D;dsimp only at h0 q m⊢;unfold R2
 try dsimp only
 refine aV (λJ=>?_) (λ_=>ae ⟨q,by dsimp only;omega,m⟩)
 refine aD (apv h f.ai.length (by omega) (d:=⟨b,z⟩) q) λw v=>?_
 refine aD (iM h (d:=⟨w.1,w.2.1⟩) v.1 [9,29,4] (by decide) (by decide)) λj x=>?_
 refine aD (ir h (d:=⟨j.1,j.2.1⟩) x.1 3 (by decide) (by decide)) λt E=>?_
 refine aD (iM h (d:=⟨t.1,t.2.1⟩) E.1 [0,1,5] (by decide) (by decide)) λk p=>?_
 have K:4<=j.2.2/\j.2.2<=29:=by have:=x.2;simp at this;omega
 have M:0<=k.2.2/\k.2.2<=5:=by have:=p.2;simp at this;omega
 rw[aJ (n:=1+j.2.2)];refine aD (Q:=λe:xe=>∃g a,e=JB g a/\DI l g.L g.At/\lS f.ai.length a) ?_ λe s=>?_
 .refine aV (λ_=>?_) (λO=>ae ⟨_,_,rfl,p.1,⟨by dsimp only;omega,v.2,by dsimp only;omega,by dsimp only;omega,by dsimp only;omega⟩⟩)
  refine aD (ir h (d:=⟨k.1,k.2.1⟩) p.1 (f.ai.length:Int) (by omega) (by omega)) λN u=>ae ⟨_,_,rfl,u.1,⟨by simp,cj.one u.2.1 (by omega),by dsimp only;omega,by dsimp only;omega,by dsimp only;omega⟩⟩
 .obtain⟨g,a,rfl,B,o⟩:=s;show Ok ((bj 48 A [a]).bind λy=>c7 (ee (g.L,g.At,y,c3 c4 (C -1)))) _
  rw[dm (by decide) (by omega),aa,aJ];refine ae ⟨⟨by simp;omega,B,λG i=>?_⟩,by dsimp only;omega⟩
  rcases e6.1 i with i |i
  .exact m G i
  .rw[dv] at i;rw[i];exact o
def afs(s:l.length<=400){m:ak}(D:CJ m){d:bD}(C:DI l d.L d.At):Ok (Cq LC d m) λr=>DI l r.1 r.2.1/\r.2.2.length=m.af.length/\∀a,a∈r.2.2->ke a:=by
 have J:=D.nr;unfold Cq;refine aD (Q:=λe:List Int×Int×List bI=>DI l e.1 e.2.1/\e.2.2.length=m.af.length/\∀a,a∈e.2.2->ke a) ?_ λe u=>ae u
 refine di m.af.length (λi f=>f.2.2.2=(i:Int)/\DI l f.1 f.2.1/\f.2.2.1.length=i/\∀a,a∈f.2.2.1->ke a) _ (λi f H t=>?_) (λf t=>?_) _ ⟨rfl,C,rfl,λa c=>by cases c⟩
 .obtain⟨b,w,v,A⟩:=f;obtain⟨rfl,p,j,o⟩:=t;dsimp only at p j o⊢;unfold JQ
  try dsimp only
  rw[aC];refine aD (iM s (d:=⟨b,w⟩) p [0,1000,5000,20000,(-5000),(-20000),4999,100] (by decide) (by decide)) λg x=>?_
  refine aD (iM s (d:=⟨g.1,g.2.1⟩) x.1 [0,1,1000,6000] (by decide) (by decide)) λk z=>?_
  refine aD (iM s (d:=⟨k.1,k.2.1⟩) z.1 [0,1,500] (by decide) (by decide)) λh y=>?_
  have G: -20000<=g.2.2/\g.2.2<=20000:=by have:=x.2;simp at this;omega
  have E:0<=k.2.2/\k.2.2<=6000:=by have:=z.2;simp at this;omega
  have I:0<=h.2.2/\h.2.2<=500:=by have:=y.2;simp at this;omega
  rw[aJ (n:=g.2.2 -k.2.2),aJ (n:=g.2.2+h.2.2),dm (by decide) (by omega),aa];refine aD (p9 s (d:=⟨h.1,h.2.1⟩) y.1 9 (by decide)) λF B=>?_
  have c:∀a,a∈v++[bI.mk (g.2.2 -k.2.2) (g.2.2+h.2.2)]->ke a:=λa c=>by
   rcases e6.1 c with c |c
   .exact o a c
   .rw[dv] at c;rw[c];unfold ke;dsimp only;omega
  refine aD (Q:=λe:List bI=>e.length=i+1/\∀a,a∈e->ke a) ?_ λe u=>?_
  .refine dy (λ_=>?_) (λ_=>ae ⟨by simp[j],c⟩)
   rw[jF ⟨0,0⟩ (by omega) (by simp;omega),aa,get_at ⟨0,0⟩ (by omega) (by simp;omega),aa];refine ae ⟨by simp[j],λa q=>?_⟩
   rcases ez q with q |q
   .exact c a q
   .rw[q];unfold ke;dsimp only;omega
  .rw[aJ];exact ae ⟨rfl,B,u⟩
 .obtain⟨b,w,v,A⟩:=f;obtain⟨rfl,p,j,o⟩:=t;dsimp only at p j o⊢;unfold JQ
  try dsimp only
  rw[aG];exact ae ⟨p,j,o⟩
end
def JL{d b g a:Int}{l:List Int}(h:cj d b l)(n:b<a)(k:a<=g)(i:d<=a):cj d g (l++[a]):=λq j=>by
 simp only[eH,hq] at j
 by_cases f:q<l.length
 .have:=h q f;have c:(l++[a]).getD q 0=l.getD q 0:=by rw[dd,e5 f,dd]
  have e:(l++[a]).getD (q -1) 0=l.getD (q -1) 0:=by rw[dd,e5 (by omega),dd]
  rw[c,e];exact⟨this.1,by omega,this.2.2⟩
 .have m:q=l.length:=by omega
  have c:(l++[a]).getD q 0=a:=by rw[dd,m,gv (gy _)];simp
  rw[c];refine⟨i,k,λo=>?_⟩
  have:=h (q -1) (by omega);have e:(l++[a]).getD (q -1) 0=l.getD (q -1) 0:=by rw[dd,e5 (by omega),dd]
  rw[e];omega
def cj.up{a b c d:Int}{e:List Int}(h:cj a b e)(k:c<=a)(j:b<=d):cj c d e:=λi hi=>by
 have:=h i hi;exact⟨by omega,by omega,this.2.2⟩
def PF:∀{a:List Int},a.Pairwise (·<=·)->dQ a=a
 |[],_=>rfl
 |b::a,f=>by
  obtain⟨e,d⟩:=List.pairwise_cons.1 f;show mM b (dQ a)=b::a
  rw[PF d];cases a with
  |nil=>rfl
  |cons c a=>
   show(bif c5 (b<=c) then b::c::a else c::mM b a)=_
   rw[aC (e c (by simp))]
def cj.pw{a b:Int}{d:List Int}(h:cj a b d):d.Pairwise (·<=·):=by
 refine h7.2 λi j hi c e=>?_
 have:=h.lt e c;rw[pu (c6 hi),pu (c6 c)] at this;omega
def cj.bo{a:List Int}(h:cj 1 65535 a):lz a:=by
 unfold lz;rw[PF h.pw];exact h
def has_eq{l:List Int}{x:Int}(h:Fit l):xb LC l x=c7 (c5 (x∈l)):=by
 have q:l.length<=4611686018427387904:=h;have r:=Bb (l:=l) (x:=x) h;have m:Ok (bO (λf=>DG LC l x f) 0) λg=>(g= .inl ()/\x∈l)\/(g= .inr ()/\x∉l):=by
  refine di l.length (λi f=>f=(i:Int)/\∀d,d<i->l[d]? ≠c7 x) _ (λi f c a=>?_) (λf a=>?_) _ ⟨rfl,λd k=>by omega⟩
  .obtain⟨rfl,a⟩:=a;unfold DG;rw[aC,bn,c6 c,aa];refine aV (λb=>ae (.inl ⟨rfl,by rw[<-b];exact e0 c⟩)) (λb=>?_)
   rw[aJ];refine ae ⟨rfl,λd k e=>?_⟩
   by_cases p:d=i
   .subst p;rw[c6 c] at e;injection e with e
    exact b e
   .exact a d (by omega) e
  .obtain⟨rfl,a⟩:=a;unfold DG;rw[aG];refine ae (.inr ⟨rfl,λn=>?_⟩)
   obtain⟨i,c,rfl⟩:=dt.1 n;exact a i c (c6 c)
 unfold xb;obtain⟨g,j,o⟩:=m;refine(dL j).trans ?_
 rcases o with⟨rfl,b⟩ |⟨rfl,b⟩
 .rw[decide_eq_true b];rfl
 .rw[decide_eq_false b];rfl
def N1(c:bI)(a b:Int):Ok (xG LC c a b) λ_=>True:=by
 unfold xG;exact aV (λ_=>aV (λ_=>ae trivial) (λ_=>ae trivial)) (λ_=>ae trivial)
def ajL{a:ak}(g:cP a):Ok (EI LC a) λ_=>True:=by
 have k:=g.1;have j:=g.2.1;unfold EI;refine aD (Q:=λ_=>True) (aV (λ_=>ae trivial) (λ_=>ae trivial)) λb _=>?_
 refine dy (λ_=>ae trivial) (λ_=>?_)
 refine aD (Q:=λ_=>True) ?_ λf _=>?_
 .refine di a.ai.length (λi d=>d=(i:Int)) _ (λi d e c=>?_) (λd c=>?_) _ rfl
  .subst c;unfold IS;rw[aC,bn,c6 e,aa];refine aD (Q:=λ_=>True) (aV (λ_=>ae trivial) (λ_=>ae trivial)) λb _=>?_
   refine dy (λ_=>ae trivial) (λ_=>?_)
   rw[aJ];exact ae (by dsimp only;omega)
  .subst c;unfold IS;rw[aG];exact ae trivial
 .cases f with
  |inl _=>exact ae trivial
  |inr _=>
   show Ok ((bO _ _).bind _) _
   refine aD (Q:=λ_=>True) ?_ λf _=>by cases f <;> exact ae trivial
   refine di a.af.length (λi d=>d=(i:Int)) _ (λi d e c=>?_) (λd c=>?_) _ rfl
   .subst c;unfold KX;rw[aC,bn,c6 e,aa];have tr:∀{p:Prop} [Decidable p] {a:Option Bool},Ok a (λ_=>True)->Ok (bif decide p then c7 true else a) λ_=>True:=λ{p} _ {a} h=>aV (λ_=>ae trivial) (λ_=>h)
    refine aD (Q:=λ_=>True) (tr (tr (tr (tr (ae trivial))))) λb _=>?_
    refine dy (λ_=>ae trivial) (λ_=>?_)
    refine aD (Q:=λ_=>True) (tr (tr (tr (tr (aD (N1 _ _ _) λb _=>dy (λ_=>ae trivial) λ_=>aD (N1 _ _ _) λb _=>ae trivial))))) λb _=>?_
    refine dy (λ_=>ae trivial) (λ_=>?_)
    rw[aJ];exact ae (by dsimp only;omega)
   .subst c;unfold KX;rw[aG];exact ae trivial
def Lx{c:ak}(f:cP c){i:Nat}(g:i<c.af.length)(b:Bool):Ok (wm LC c (i:Int) b) λ_=>True:=by
 have m:=f.2.1;have e:=c6 g;have h:=e0 g;generalize c.af[i]=r at e h;have s:=(f.2.2.2 r h).1;unfold wm Gv;refine aD (Q:=λ_=>True) ?_ λ_ _=>ae trivial
 refine aD (Q:=λ_=>True) ?_ λp _=>?_
 .refine aD (ajL f) λq _=>?_
  refine aV (λ_=>ae trivial) (λ_=>aV (λ_=>ae trivial) (λ_=>aV (λ_=>ae trivial) (λ_=>?_)))
  rw[bn,e,aa,aa];exact dy (λ_=>ae trivial) (λ_=>ae trivial)
 .refine dy (λ_=>ae trivial) (λ_=>?_)
  rw[bn,e,aa];obtain⟨a,k,d⟩:∃a:Int×Int,Da LC r b=c7 a/\(0<=a.1/\a.1<(c.ai.length:Int))/\0<=a.2/\a.2<(c.ai.length:Int):=by
   unfold Da;cases b
   .exact⟨_,rfl,by dsimp only;omega,by dsimp only;omega⟩
   .exact⟨_,rfl,by dsimp only;omega,by dsimp only;omega⟩
  rw[k,aa,jF ⟨0,false⟩ d.2.1 d.2.2,aa,jF ⟨0,false⟩ d.1.1 d.1.2,aa];refine aD (Q:=λr:Int=>r≠0) (aV (λ_=>ae (by decide)) (λ_=>ae (by decide))) λo j=>?_
  refine aD (Q:=λr:Int=>r≠0) (aV (λ_=>ae (by decide)) (λ_=>ae j)) λn l=>?_
  rw[Ek l,aa];exact ae trivial
def Yh{a:ak}(j:cP a){ar:List Int}(l:Fit ar):Ok (Dt LC a ar) λr=>r.length<=a.af.length/\cj 0 ((a.af.length:Int) -1) r:=by
 have p:=j.2.1;unfold Dt;refine aD (Q:=λr:List Int=>r.length<=a.af.length/\cj 0 ((a.af.length:Int) -1) r) ?_ λf k=>ae k
 refine di a.af.length (λi c=>c.2=(i:Int)/\c.1.length<=i/\cj 0 ((i:Int) -1) c.1) _ (λi c g h=>?_) (λc h=>?_) _ ⟨rfl,gy _,cj.nil⟩
 .obtain⟨o,m⟩:=c;obtain⟨rfl,e,d⟩:=h;dsimp only at e d⊢;unfold Hh;rw[aC,bn,c6 g,aa];refine aD (Q:=λ_=>True) ?_ λb _=>?_
  .refine aD (Lx j g false) λn _=>?_
   exact aV (λ_=>ae trivial) (λ_=>aD (Lx j g true) λn _=>ae trivial)
  refine aD (Q:=λ_=>True) ?_ λb _=>?_
  .refine dy (λ_=>dy (λ_=>?_) (λ_=>ae trivial)) (λ_=>ae trivial)
   rw[has_eq l,aa,has_eq l,aa];exact ae trivial
  refine aD (Q:=λf:List Int=>f.length<=i+1/\cj 0 (((i+1:Nat):Int) -1) f) ?_ λf k=>?_
  .refine dy (λ_=>?_) (λ_=>ae ⟨by omega,d.up (dk _) (by omega)⟩)
   rw[dm (by decide) (by omega),aa];exact ae ⟨by simp;omega,JL d (by omega) (by omega) (by omega)⟩
  .rw[aJ];exact ae ⟨rfl,k⟩
 .obtain⟨o,m⟩:=c;obtain⟨rfl,e,d⟩:=h;dsimp only at e d⊢;unfold Hh;rw[aG];exact ae ⟨e,d⟩
structure yJ (s:gM):Prop where
 fN:CJ s.ao
 rd:s.aQ.length<=3/\∀x,x∈s.aQ->lS s.ao.ai.length x
 pl:(1<=s.ai.length/\s.ai.length<=3)/\∀x,x∈s.ai->0<=x/\x<(s.ao.ai.length:Int)
 tg:s.aw.length=s.ai.length/\lz s.aw
 fl:s.cI.length=s.ao.af.length/\∀x,x∈s.cI->ke x
 es:lH s.ao s.bR/\s.bR.dg=[]/\s.bR.dG=[]/\s.bR.akL.length<=1
 bl:rR s.bM/\s.bM.bT.length<=2/\∀x,s.bM.bT[s.bM.bT.length -1]?=c7 x->x<(s.ao.ai.length:Int)
 br:(1<=s.gZ.length/\s.gZ.length<=10)/\cj 0 ((s.ao.af.length:Int) -1) s.gZ
section
variable {l:List Int}
def alo(h:l.length<=400):Ok (zy LC ⟨l,0⟩) λr=>DI l r.1 r.2.1/\yJ r.2.2:=by
 unfold zy;refine aD (amM h DI.init) λao C=>?_
 obtain⟨Z,ag,m⟩:=ao;obtain⟨C,u⟩:=C;dsimp only at C u⊢;have au:=u.np;have aB:=u.nr;refine aD (als h (d:=⟨Z,ag⟩) u C) λp N=>?_
 refine aD (ir h (d:=⟨p.1,p.2.1⟩) N.1 3 (by decide) (by decide)) λw T=>?_
 rw[aJ (n:=1+w.2.2)];refine aD (Q:=λg=>∃f e a c,g=(f,e,m.ai,m.af,p.2.2,a,c,([]:List bI),([]:List Int),([]:List Int),([]:List Int),([]:List Int),([]:List Int))/\DI l f e/\((1<=a.length/\a.length<=3)/\∀j,j∈a->0<=j/\j<(m.ai.length:Int))/\c.length=a.length/\cj 1 65535 c) ?_ λaz ai=>?_
 .obtain⟨n,ah⟩:∃n:Nat,1+w.2.2=(n:Int):=⟨(1+w.2.2).toNat,by omega⟩;rw[ah];refine di n (λi G=>∃f e a c,G=(f,e,m.ai,m.af,p.2.2,([]:List bI),([]:List Int),([]:List Int),([]:List Int),([]:List Int),([]:List Int),a,c,((n:Int) -i))/\DI l f e/\(a.length=i/\∀j,j∈a->0<=j/\j<(m.ai.length:Int))/\c.length=a.length/\cj 1 (30 -7*((n:Int) -i+1)) c) _ (λi G aw E=>?_) (λG E=>?_) _ ⟨w.1,w.2.1,[],[],by simp,T.1,⟨rfl,(λj o=>by cases o)⟩,rfl,cj.nil⟩
  .obtain⟨f,e,a,c,rfl,A,y,x,z⟩:=E;unfold F8;dsimp only;rw[aC];refine aD (ir h (d:=⟨f,e⟩) A (m.ai.length:Int) (by omega) (by omega)) λr k=>?_
   rw[dm (by decide) (by omega),aa,aJ (n:=7*((n:Int) -i)) (by omega) (by omega),aJ (n:=30 -7*((n:Int) -i)) (by omega) (by omega),dm (by decide) (by omega),aa,aJ];refine ae ⟨r.1,r.2.1,a++[r.2.2],c++[30 -7*((n:Int) -i)],?_,k.1,⟨by simp;omega,λj o=>?_⟩,by simp[x],JL z (by omega) (by omega) (by omega)⟩
   .rw[show(n:Int) -i -1=(n:Int) - ((i+1:Nat):Int) by omega]
   .rcases e6.1 o with o |o
    .exact y.2 j o
    .rw[dv] at o;rw[o];exact k.2
  .obtain⟨f,e,a,c,rfl,A,y,x,z⟩:=E;unfold F8;dsimp only;rw[aG];exact ae ⟨f,e,a,c,rfl,A,⟨by omega,y.2⟩,x,z.up (dk _) (by omega)⟩
 obtain⟨f,e,a,c,rfl,A,y,x,z⟩:=ai;dsimp only;refine aD (afs h (m:=⟨m.ai,m.af⟩) (d:=⟨f,e⟩) u A) λv S=>?_
 refine aD (iM h (d:=⟨v.1,v.2.1⟩) S.1 [600,100,2000] (by decide) (by decide)) λs M=>?_
 have ax:100<=s.2.2/\s.2.2<=2000:=by have:=M.2;simp at this;omega
 refine aD (p9 h (d:=⟨s.1,s.2.1⟩) M.1 3 (by decide)) λK I=>?_
 refine aD (Q:=λg=>∃f e safe,g=(f,e,m.ai,m.af,p.2.2,a,c,v.2.2,safe,([]:List Int),([]:List Int),s.2.2,([]:List Int),([]:List Int))/\DI l f e/\cj 0 ((m.ai.length:Int) -1) safe/\safe.length<=1) ?_ λap am=>?_
 .refine dy (λ_=>?_) (λ_=>ae ⟨_,_,[],rfl,I,cj.nil,by simp⟩)
  exact aD (ir h (d:=⟨K.1,K.2.1⟩) I (m.ai.length:Int) (by omega) (by omega)) λr k=>ae ⟨_,_,[r.2.2],rfl,k.1,cj.one k.2.1 (by omega),by simp⟩
 obtain⟨an,Y,safe,rfl,ak,X,al⟩:=am;dsimp only;refine aD (iM h (d:=⟨an,Y⟩) ak [299,4] (by decide) (by decide)) λq P=>?_
 have ay:4<=q.2.2/\q.2.2<=299:=by have:=P.2;simp at this;omega
 refine aD (iM h (d:=⟨q.1,q.2.1⟩) P.1 [99,1799] (by decide) (by decide)) λt D=>?_
 have av:99<=t.2.2/\t.2.2<=1799:=by have:=D.2;simp at this;omega
 rw[aJ (n:=(m.ai.length:Int) -2),aJ (n:=(m.ai.length:Int) -1),aJ (n:=1+q.2.2),aJ (n:=1+t.2.2)];refine aD (Q:=λg:List Int×Int×Bool=>DI l g.1 g.2.1/\(g.2.2=true->2<(m.ai.length:Int))) ?_ λJ H=>?_
 .refine aV (λU=>?_) (λ_=>ae ⟨D.1,λB=>by cases B⟩)
  exact aD (p9 h (d:=⟨t.1,t.2.1⟩) D.1 3 (by decide)) λr k=>ae ⟨k,λ_=>U⟩
 refine aD (Q:=λg:DN=>∃ar,g=zl ⟨m,p.2.2,a,c,v.2.2,⟨safe,[],[],s.2.2⟩,⟨ar,1+q.2.2,1+t.2.2⟩,[]⟩/\ar.length≠0/\ar.length<=2/\cj 0 ((m.ai.length:Int) -1) ar) ?_ λaq af=>?_
 .refine dy (λB=>ae ⟨_,rfl,by simp,by simp,?_⟩) (λ_=>ae ⟨_,rfl,by simp,by simp,cj.one (by omega) (by omega)⟩)
  have:=H.2 B;exact JL (l:=[(m.ai.length:Int) -2]) (b:=(m.ai.length:Int) -2) (cj.one (by omega) (by omega)) (by omega) (by omega) (by omega)
 obtain⟨ar,rfl,aj,V,L⟩:=af;rw[show Nr (zl ⟨m,p.2.2,a,c,v.2.2,⟨safe,[],[],s.2.2⟩,⟨ar,1+q.2.2,1+t.2.2⟩,[]⟩)=⟨m,p.2.2,a,c,v.2.2,⟨safe,[],[],s.2.2⟩,⟨ar,1+q.2.2,1+t.2.2⟩,[]⟩ from rfl];dsimp only;refine aD (Yh u.ok (ar:=ar) (by show ar.length<=_;omega)) λR ac=>?_
 have fin:∀(b:List Int),(1<=b.length/\b.length<=10)->cj 0 ((m.af.length:Int) -1) b->yJ ⟨m,p.2.2,a,c,v.2.2,⟨safe,[],[],s.2.2⟩,⟨ar,1+q.2.2,1+t.2.2⟩,b⟩:=λb W ad=>by
  refine⟨u,N.2,y,⟨x,z.bo⟩,S.2,⟨⟨u.ok,X,cj.nil,cj.nil,?_,?_⟩,rfl,rfl,al⟩,⟨⟨aj,L.up (by decide) (by omega),⟨?_,?_⟩,?_,?_⟩,V,λj o=>?_⟩,W,ad⟩
  .dsimp only;omega
  .dsimp only;omega
  .dsimp only;omega
  .dsimp only;omega
  .dsimp only;omega
  .dsimp only;omega
  .have:=L.mem (fC o);show j<(m.ai.length:Int)
   omega
 refine aD (Q:=λg:List Int×Int×Bool=>DI l g.1 g.2.1/\(g.2.2=false->1<=R.length)) ?_ λO F=>?_
 .refine aV (λ_=>ae ⟨H.1,λB=>by cases B⟩) (λaA=>?_)
  exact aD (p9 h (d:=⟨J.1,J.2.1⟩) H.1 8 (by decide)) λr k=>ae ⟨k,λ_=>by omega⟩
 refine dy (λ_=>?_) (λab=>ae ⟨F.1,fin R ⟨F.2 ab,by omega⟩ ac.2⟩)
 exact aD (ir h (d:=⟨O.1,O.2.1⟩) F.1 (m.af.length:Int) (by omega) (by omega)) λr k=>ae ⟨k.1,fin [r.2.2] (by simp) (cj.one k.2.1 (by omega))⟩
end
def ajS{c:List Int}{b:ak}(d:cj 0 ((b.af.length:Int) -1) c)(g:b.af.length<=1000)(h:c.length<=1000):zi LC c b=c7 false:=by
 unfold zi;have e:Ak LC c b=c7 (gg (λa=>!c5 (0<=a/\a<=(b.af.length:Int) -1)) c):=by
  unfold Ak;refine fF (P:=λa=>zm LC a b) (by omega) (λa _=>?_) λi=>rfl
  unfold zm;rw[aJ,cF,aa]
 rw[e,aa,gm]
 congr 1
 rw[List.any_eq_false];intro a f;have:=d.mem f;simp[this.1,this.2]
structure Lr (m:ak) (bo ps:List Int) (b:aL):Prop where
 ex:∃wh,b=⟨[⟨bo,wh⟩]⟩/\wh.length=ps.length/\∀(i:Nat) x p,wh[i]?=c7 x->ps[i]?=c7 p->x.aa0=0/\jK m x/\fn x.an p<=0
def adm{g:ak}{e c:List Int}(w:cP g)(J:e.length=c.length)(I:1<=c.length/\c.length<=3)(B:lz e)(H:∀a,a∈c->0<=a/\a<(g.ai.length:Int)):Ok (Bk LC g e c 0) λq=>q.2=0/\Lr g e c q.1:=by
 unfold Bk;rw[ko,aa,decide_eq_true w,ec,cond_false,aG,cF,aa,decide_eq_true (by omega),ec,aa,cond_false,O6 (cX (n:=3) (by omega) (by decide)),aa,decide_eq_true B,ec,cond_false,bV (cX (n:=3) (by omega) (by decide)),aa];refine aD (Q:=λs=>∃b,s=fe (e,b)/\b.length=c.length/\∀(i:Nat) a p,b[i]?=c7 a->c[i]?=c7 p->a.aa0=0/\jK g a/\fn a.an p<=0) ?_ λs D=>?_
 .refine di c.length (λi r=>∃b,r=(e,b,(i:Int))/\b.length=i/\∀(i:Nat) a p,b[i]?=c7 a->c[i]?=c7 p->a.aa0=0/\jK g a/\fn a.an p<=0) _ (λi r v o=>?_) (λr o=>?_) _ ⟨[],rfl,rfl,λi a p d=>by simp at d⟩
  .obtain⟨b,rfl,f,h⟩:=o;unfold HP;dsimp only;have k:=c6 v;have u:=e0 v;generalize c[i]=p at k u;rw[aC,bn,k,aa];refine aD (aaW w (H p u) (t:=0) (by decide)) λq y=>?_
   obtain⟨E,z,F,A⟩:=y;rw[aG (by rw[E];simp),dm (by decide) (by omega),aa,aJ];refine ae ⟨b++[q.1],rfl,by simp[f],λm a G d j=>?_⟩
   by_cases x:m<b.length
   .rw[e5 x] at d;exact h m a G d j
   .have C:m=i:=by
     have:=(ey.1 d).1;simp at this;omega
    subst C;rw[gv (by omega),f,Nat.sub_self] at d;have d:c7 q.1=c7 a:=d;injection d with d
    rw[k] at j;injection j with j
    subst d;subst j;exact⟨z,F,A⟩
  .obtain⟨b,rfl,f,h⟩:=o;unfold HP;dsimp only;rw[aG];exact ae ⟨b,rfl,f,h⟩
 .obtain⟨b,rfl,f,h⟩:=D;exact ae ⟨rfl,⟨b,rfl,f,h⟩⟩
def anj:Ok (DL LC) λa=>Sm a.dl/\Sm a.dr:=by
 unfold DL;rw[show(32:Int)=((32:Nat):Int) from rfl,Oa (by decide),aa,nS (by decide) (by decide),aa];exact ae ⟨by show(ea 32 (-1:Int)).length<=_;rw[ft];decide,by show(ea _ (0:Int)).length<=_;rw[ft];decide⟩
structure vD (s:gM) (p:aE):Prop where
 ex:∃x b bs,p=⟨xj s.ao s.aQ s.ai s.aw 0,s.ao,s.cI,s.bR,s.bM,ea s.aQ.length (aT.mk 0 0 0 []),[],x,b,⟨0,[]⟩,⟨s.gZ,bs,false⟩,⟨0,0,0,0⟩,⟨[]⟩,[],[]⟩/\(Sm x.dl/\Sm x.dr)/\Lr s.ao s.aw s.ai b/\bs=ea s.gZ.length 0
def vD.mD{s:gM}(c:yJ s){p:aE}(h:vD s p):dW s.ai.length s.ao.ai.length p:=by
 obtain⟨x,b,I,rfl,D,o,rfl⟩:=h.ex;obtain⟨wh,rfl,B,u⟩:=o.ex;have E:=c.fN.ok;have H:=c.pl.1;have d:=c.rd;have G:=c.fN.nr;have w:=c.fN.np;have m:=c.br;refine {n3:=H,kN:=?_,fN:=rfl,gq:=E,gk:=rfl,iz:=by show(s.ai.map _).length=_;rw[e4],jR:=d.1,kj:=by show(s.aQ.map _).length=_;rw[e4];rfl,uD:=c.fl.1,kI:=?_,qx:=cX c.bl.2.1 (by decide),kn:=by show(ea _ _).length=_;rw[ft];rfl,rX:=?_,uB:=by show(0:Nat)<=60;decide,rW:=(λr d=>by cases d),int:=D,hZ:=?_,bne:=by simp,je:=.nil,pq:=.inl rfl,key:=?_,jY:=m.2,iI:=⟨by simp,(λa F=>by cases F),ie⟩,log:=by show(0:Nat)<=200;decide,uC:=(λh A=>by cases A)}
 .refine⟨cX (n:=7) w.2 (by decide),cX (n:=10) G.2 (by decide),?_,cX (n:=3) (by show s.aw.length<=3;have:=c.tg.1;omega) (by decide),cX (n:=3) d.1 (by decide),λr j=>?_,?_,?_,?_,λl y=>?_⟩
  .show(s.ai.map _).length<=1000000;rw[e4];omega
  .have:=(d.2 r j).2.1.len (by omega);show r.ai.length<=1000000
   omega
  .show(s.aQ.map _).length<=1000000;rw[e4];omega
  .show(s.aQ.map _).length<=1000000;rw[e4];omega
  .show(s.aQ.map _).length<=1000000;rw[e4];omega
  .obtain⟨r,_,rfl⟩:=hD.1 y;show(ea _ _).length<=1000000;rw[ft];omega
 .have e:=c.es;refine⟨⟨?_,?_,?_⟩,?_,?_,?_⟩
  .show s.bR.akL.length<=4611686018427387904;omega
  .show s.bR.dg.length<=4611686018427387904;rw[e.2.1];simp
  .show s.bR.dG.length<=4611686018427387904;rw[e.2.2.1];simp
  .show s.bR.akL.length<=1000000;omega
  .show s.bR.dg.length<=1000000;rw[e.2.1];simp
  .show s.bR.dG.length<=1000000;rw[e.2.2.1];simp
 .intro r j;rw[h9 j];simp
 .refine⟨by simp,λJ k=>?_⟩
  rw[dv] at k;subst k;refine⟨⟨B,λx t=>?_⟩,c.tg.1⟩
  obtain⟨i,hi,rfl⟩:=dt.1 t;exact(u i _ _ (c6 hi) (c6 (show i<s.ai.length by have hi:i<wh.length:=hi;omega))).2.1.1.1
 .refine⟨⟨by show(1:Int)<=(s.gZ.length:Int)/\(s.gZ.length:Int)<=12;omega,m.2.up (dk _) (by omega)⟩,by show(ea _ _).length=_;rw[ft],λn C=>?_,λh=>by cases h⟩
  rw[h9 C]
  decide
def amU{a:gM}(c:yJ a):Ok (wX LC a.ao a.aQ a.ai a.aw a.cI a.bR a.bM a.gZ) λr=>r.2=0/\vD a r.1:=by
 have h:=c.fN.ok;have j:=c.pl;have B:=c.rd;have I:=c.fN.nr;have G:=c.fN.np;have g:=c.br;have e:=c.bl;unfold wX;rw[start_eq ⟨h,by omega,B.2⟩ c.tg.1 (by omega) j.2 c.tg.2 (by decide),aa,aG (by simp)];obtain⟨q,w,d⟩:=aqw a.ao a.cI [] 0 (by decide) (by show _<=4611686018427387904;omega);rw[w,aa];have u:q.2=0:=by
  rcases d with d |d
  .exact d.1
  .exact absurd ⟨⟨h,c.fl.1,c.fl.2⟩,cj.nil,by decide,by decide⟩ d.2
 have H:a.bM.bT.length≠0:=e.1.1;have i:a.bM.bT[a.bM.bT.length -1]?=c7 (a.bM.bT[a.bM.bT.length -1]'(by omega)):=c6 _;generalize a.bM.bT[a.bM.bT.length -1]'(by omega)=v at i;have f:=c.es;have C:lO a.bR:=⟨by show a.bR.akL.length<=4611686018427387904;omega,by show a.bR.dg.length<=4611686018427387904;rw[f.2.1];simp,by show a.bR.dG.length<=4611686018427387904;rw[f.2.2.1];simp⟩;have p:(bif c5 (q.2≠0) then c7 true else(rP LC a.ao a.bR).bind λF=>bif (!F) then c7 true else(oT LC a.bM (b7.mk 0 0 0 0)).bind λE=>bif (!E) then c7 true else(aj a.bM.bT (c3 c4 ((a.bM.bT.length:Int) -1))).bind λA=>c7 (c5 ((a.ao.ai.length:Int)<=A)):Option Bool)=c7 false:=by
  rw[aG (by rw[u];simp),Jc C,aa,decide_eq_true f.1,ec,cond_false,AH (by show a.bM.bT.length<=_;omega),aa,decide_eq_true ⟨e.1,Xp⟩,ec,cond_false,aJ,show((a.bM.bT.length:Int) -1)=((a.bM.bT.length -1:Nat):Int) by omega,bn,i,aa,decide_eq_false (by have:=e.2.2 v i;omega)]
 refine c8 p ?_
 rw[cond_false,ajS g.2 (by omega) (by omega),aa,cond_false];have t:uJ a.gZ:=⟨by omega,g.2.up (dk _) (by omega)⟩;have x:AQ LC a.gZ=c7 (⟨a.gZ,ea a.gZ.length 0,false⟩,0):=by
  unfold AQ;rw[Nq (by show _<=4611686018427387904;omega),aa,decide_eq_true t,ec,cond_false,bV (cX (n:=10) g.1.2 (by decide)),aa,nS (by omega) (by omega),aa,ef]
 rw[x,aa,aG (by simp)];obtain⟨b,D,z,o⟩:=adm h c.tg.1 j.1 c.tg.2 j.2;rw[D,aa,aG (by rw[z];simp),nS (by omega) (by omega),aa,ef];obtain⟨k,y,s⟩:=anj;rw[y,aa];have m:vD a ⟨xj a.ao a.aQ a.ai a.aw 0,a.ao,a.cI,a.bR,a.bM,ea a.aQ.length (aT.mk 0 0 0 []),[],k,b.1,⟨0,[]⟩,⟨a.gZ,ea a.gZ.length 0,false⟩,⟨0,0,0,0⟩,⟨[]⟩,[],[]⟩:=⟨k,b.1,_,rfl,s,o,rfl⟩;rw[abi (m.mD c).lC,aa];exact ae ⟨rfl,m⟩
def Vr{a:gM}(c:yJ a):Ok (Cw LC a) λr=>r.2=true/\vD a r.1:=by
 unfold Cw;exact aD (amU c) λr b=>ae ⟨decide_eq_true b.1,b.2⟩
def k9(b:Nat)(a:bH):Prop:=a.abv=3->0<=a.A/\a.A<max 1 (b:Int)
section
variable {l:List Int}
def anp(e:l.length<=400){d:bD}(s:DI l d.L d.At){p1 p2 p3 p5:Int}{nr:Nat}(B:p1<=1000)(y:p2<=1000)(A:p3<=1000)(C:nr<=1000)(z:p5<=1000):Ok (Di LC d p1 p2 p3 (max 1 (nr:Int)) p5) λr=>DI l r.1 r.2.1/\k9 nr r.2.2:=by
 unfold Di;refine aD (iM e s [1,1,2,2,3,4,3,4,5,6,7,8,9,10,11,12,13,7] (by decide) (by decide)) λa f=>?_
 refine aD (Q:=λi:vL=>∃g p,i=rB g p/\DI l g.L g.At/\k9 nr p) ?_ λi n=>by
  obtain⟨g,p,rfl,w,x⟩:=n;exact ae ⟨w,x⟩
 have no:∀{u b t o:Int},o≠3->k9 nr ⟨o,u,b,t⟩:=λ{u b t o} h s=>absurd s h
 refine aV (λh=>?_) (λ_=>?_)
 .exact aD (iM e (d:=⟨a.1,a.2.1⟩) f.1 [1,5,10,30,100,0,300] (by decide) (by decide)) λr c=>ae ⟨_,_,rfl,c.1,no (by omega)⟩
 refine aV (λh=>?_) (λ_=>?_)
 .refine aD (lW e (d:=⟨a.1,a.2.1⟩) f.1 p1 (by omega)) λr c=>?_
  refine aD (lW e (d:=⟨r.1,r.2.1⟩) c.1 p2 (by omega)) λk m=>?_
  exact aD (iM e (d:=⟨k.1,k.2.1⟩) m.1 [0,0,5,60] (by decide) (by decide)) λv q=>ae ⟨_,_,rfl,q.1,no (by omega)⟩
 refine aV (λh=>?_) (λj=>?_)
 .refine aD (ir e (d:=⟨a.1,a.2.1⟩) f.1 (max 1 (nr:Int)) (by omega) (by omega)) λr c=>?_
  refine aD (iM e (d:=⟨r.1,r.2.1⟩) c.1 [0,0,1,2,3] (by decide) (by decide)) λk m=>?_
  exact aD (iM e (d:=⟨k.1,k.2.1⟩) m.1 [0,0,1,(-1),3] (by decide) (by decide)) λv q=>ae ⟨_,_,rfl,q.1,λ_=>c.2⟩
 refine aV (λh=>?_) (λ_=>?_)
 .exact aD (lW e (d:=⟨a.1,a.2.1⟩) f.1 _ (by omega)) λr c=>ae ⟨_,_,rfl,c.1,no (by omega)⟩
 refine aV (λh=>?_) (λ_=>?_)
 .refine aD (lW e (d:=⟨a.1,a.2.1⟩) f.1 p1 (by omega)) λr c=>?_
  exact aD (lW e (d:=⟨r.1,r.2.1⟩) c.1 p1 (by omega)) λk m=>ae ⟨_,_,rfl,m.1,no (by omega)⟩
 refine aD (Q:=λi:List Int×Int×Int×Int×Int=>DI l i.1 i.2.1/\i.2.2.1≠3) ?_ λi n=>ae ⟨_,_,rfl,n.1,no n.2⟩
 refine aV (λh=>?_) (λ_=>?_)
 .exact aD (lW e (d:=⟨a.1,a.2.1⟩) f.1 p3 (by omega)) λr c=>ae ⟨c.1,j⟩
 refine aV (λh=>?_) (λ_=>?_)
 .exact aD (lW e (d:=⟨a.1,a.2.1⟩) f.1 p5 (by omega)) λr c=>ae ⟨c.1,j⟩
 refine aD (Q:=λ_=>True) (aV (λ_=>ae trivial) (λ_=>ae trivial)) λb _=>?_
 refine dy (λ_=>?_) (λ_=>?_)
 .exact aD (lW e (d:=⟨a.1,a.2.1⟩) f.1 2 (by decide)) λr c=>ae ⟨c.1,j⟩
 refine aV (λh=>?_) (λ_=>?_)
 .refine aD (lW e (d:=⟨a.1,a.2.1⟩) f.1 4 (by decide)) λr c=>?_
  rw[Ek (by decide),aa];exact ae ⟨c.1,j⟩
 refine aD (Q:=λ_=>True) (aV (λ_=>ae trivial) (λ_=>ae trivial)) λb _=>?_
 refine dy (λ_=>?_) (λ_=>ae ⟨f.1,j⟩)
 exact aD (lW e (d:=⟨a.1,a.2.1⟩) f.1 p2 (by omega)) λr c=>ae ⟨c.1,j⟩
def vx{c:Nat}{d b:List bH}(g:∀a,a∈d->k9 c a)(e:∀a,a∈b->k9 c a):∀a,a∈d++b->k9 c a:=λa f=>(e6.1 f).elim (g a) (e a)
def aqk(h:l.length<=400){d:bD}(f:DI l d.L d.At){M F:Nat}{p:aE}(k:dW M F p)(s:Int)(D:1<=s)(V:s<=1000):Ok (EJ LC d p s) λr=>DI l r.1 r.2.1/\r.2.2.length<=100/\∀b,b∈r.2.2->k9 p.au.aQ.length b:=by
 have Y:=k.key.1.1;have N:=k.iz;have R:=k.n3;have W:=k.gq.1;have T:=k.gq.2.1;have P:=k.jR;unfold EJ;refine aD (ir h f s D (by omega)) λL H=>?_
 rw[aJ];refine aD (Q:=λa:List Int×Int×List bH=>DI l a.1 a.2.1/\a.2.2.length<=100/\∀b,b∈a.2.2->k9 p.au.aQ.length b) ?_ λa g=>ae g
 refine oa (λc=>(0<=c.2.2.2/\c.2.2.2<=5+L.2.2)/\DI l c.1 c.2.1/\c.2.2.1.length<=100/\∀b,b∈c.2.2.1->k9 p.au.aQ.length b) (λc=>c.2.2.2.toNat) _ (λc o=>?_) _ ⟨⟨(by dsimp only;omega),dk _⟩,H.1,by simp,(λb e=>by cases e)⟩
 obtain⟨K,E,u,i⟩:=c;obtain⟨h0,w,y,n⟩:=o;dsimp only at h0 w y n⊢;unfold T2;dsimp only;have C:(bif c5 (0<i) then c7 (c5 ((u.length:Int)<60)) else c7 false)=c7 (c5 (0<i/\(u.length:Int)<60)):=fm rfl;refine c8 C ?_
 refine aV (λO=>?_) (λ_=>ae ⟨w,y,n⟩)
 refine aD (Q:=λa:List Int×Int×List bH=>DI l a.1 a.2.1/\a.2.2.length<=100/\∀b,b∈a.2.2->k9 p.au.aQ.length b) ?_ λa g=>by
  rw[aJ];exact ae ⟨⟨by dsimp only;omega,g⟩,by dsimp only;omega⟩
 refine aD (p9 h (d:=⟨K,E⟩) w 12 (by decide)) λr A=>?_
 refine dy (λ_=>?_) (λ_=>?_)
 .refine aD (Q:=λa:List bH=>a.length<=u.length+12/\∀b,b∈a->k9 p.au.aQ.length b) ?_ λa g=>?_
  .refine di p.aa2.af.length (λi c=>c.2=(i:Int)/\c.1.length=u.length+i/\∀b,b∈c.1->k9 p.au.aQ.length b) _ (λi c U o=>?_) (λc o=>?_) _ ⟨rfl,rfl,n⟩
   .obtain⟨I,q⟩:=c;obtain⟨rfl,v,m⟩:=o;dsimp only at v m⊢;unfold II;rw[aC,dm (by decide) (by omega),aa,aJ];refine ae ⟨rfl,by simp;omega,vx m λb e=>?_⟩
    rw[dv] at e;subst e;exact λf=>absurd f (show ¬(7:Int)=3 by decide)
   .obtain⟨I,q⟩:=c;obtain⟨rfl,v,m⟩:=o;dsimp only at v m⊢;unfold II;rw[aG];exact ae ⟨by omega,m⟩
  .rw[pN (by simp;omega),aa];refine ae ⟨A,by simp;omega,vx g.2 λb e=>?_⟩
   simp at e;rcases e with rfl |rfl |rfl |rfl <;> exact λf=>absurd f (by decide)
 .refine aD (Q:=λa:List Int×Int×Bool=>DI l a.1 a.2.1/\(a.2.2=true->0<p.au.aQ.length)) (aD (p9 h (d:=⟨r.1,r.2.1⟩) A 3 (by decide)) λX z=>dy (λ_=>ae ⟨z,λf=>by have:=of_decide_eq_true f;omega⟩) (λ_=>ae ⟨z,λf=>by cases f⟩)) λa g=>?_
  refine dy (λB=>?_) (λ_=>?_)
  .have Z:=g.2 B;refine aD (ir h (d:=⟨a.1,a.2.1⟩) g.1 (p.au.aQ.length:Int) (by omega) (by omega)) λt j=>?_
   refine aD (iM h (d:=⟨t.1,t.2.1⟩) j.1 [0,0,1] (by decide) (by decide)) λx J=>?_
   refine aD (iM h (d:=⟨x.1,x.2.1⟩) J.1 [1,5,10,20] (by decide) (by decide)) λS G=>?_
   rw[pN (by simp;omega),aa];refine ae ⟨G.1,by simp;omega,vx n λb e=>?_⟩
   simp at e;rcases e with rfl |rfl |rfl
   .exact λ_=>⟨j.2.1,by have:=j.2.2;show t.2.2<_;omega⟩
   .exact λf=>absurd f (show ¬(4:Int)=3 by decide)
   .exact λf=>absurd f (show ¬(1:Int)=3 by decide)
  .refine aD (anp h (d:=⟨a.1,a.2.1⟩) g.1 (p1:=(p.au.aN.length:Int)) (p2:=(p.ao.af.length:Int)) (p3:=(p.ao.ai.length:Int)) (nr:=p.au.aQ.length) (p5:=max 1 (p.aa2.af.length:Int)) (by omega) (by omega) (by omega) (by omega) (by omega)) λt j=>?_
   rw[dm (by decide) (by omega),aa];refine ae ⟨j.1,by simp;omega,vx n λb e=>?_⟩
   rw[dv] at e;rw[e];exact j.2
end
def gC.Gm{p j:aE}{e:bH}(h:gC p e j):j.au.aQ=p.au.aQ:=by
 cases h with
 |xZ _ _ _ _ _ c=>obtain⟨b,s,fl,sm,m,rfl,_⟩:=c.ex;rfl
 |xY _ _ _ _ _ _ _ _ _ c=>obtain⟨b,s,fl,sm,m,rfl,_⟩:=c.ex;rfl
 |look k rd u r _ _ c=>obtain⟨row,D,yp,a,l,B,A,o,n,E,G,w,F,d⟩:=c.ex;rw[d]
 |swap x b s C y _ _ _ _ _ _ _ _ d t n=>rw[d]
 |_=>rfl
def oA.Gm{p a:aE}{e:bH}{c:Int}(h:oA p e a c):a.au.aQ=p.au.aQ:=by
 cases h with
 |no c _=>rfl
 |bad al nm c _ _ _ _ _=>rfl
 |zI q nm d _ _ _=>exact d.Gm
noncomputable def L2:Lp:=⟨λf a=>match fY f 2000 a with |some b=>c7 b |none=>bO f a,λf a b c=>by
 cases d:fY f 2000 a with
 |some e=>rw[d] at c;exact⟨2000,d.trans c⟩
 |none=>rw[d] at c;exact zR c⟩
def ah0:L2=LC:=by
 unfold L2 LC
 congr 1
 funext α β f a
 cases b:fY f 2000 a with
 |some c=>exact(Cd b).symm
 |none=>rfl
def ZE:vn L2=c7 true:=by kernel_rfl
def WQ:vn LC=c7 true:=ah0▸ZE
def ajy(a:List Int):I1 LC a=c7 (c5 ((a.length:Int)<=400)):=rfl
structure Km (n:Nat) (p:aE) (q:aE):Prop where
 kI:q.bR=p.bR
 iI:q.bS=p.bS
 time:q.au.aa0=p.au.aa0
 iz:q.au.aN.length=p.au.aN.length
 fN:cP q.ao
 aqL:q.ao.ai.length=p.ao.ai.length
 aqM:lH q.ao {p.bR with dg:=filled p.bz (p.au.aa0+600)}
 pq:q.bz.an=[]↔p.bz.an=[]
 qE:∀k:Nat,k<n->∀x,x∈ld q.bw (k:Int) p.au.aa0->(∃a,a∈q.bS/\fX a 2 x)\/od q.ao {p.bR with dg:=filled p.bz (p.au.aa0+600)} x=true
def ag6{b:aL}{a c e d:Int}(m:d∈ld b a c)(o:c<=e):d∈ld b a e:=by
 obtain⟨h0,i,j,g,h,f,k,l,n⟩:=RJ.1 m;exact RJ.2 ⟨h0,i,j,g,h,f,k,l,by omega⟩
def gC.aoJ{n np:Nat}{p q:aE}{e:bH}(h:dW n np p)(L:e.abv=12)(A:gC p e q):Km n p q:=by
 have l:=A.mD h;cases A with
 |xY _ al z _ O D _ _ _ I=>
  obtain⟨b,s,fl,sm,R,rfl,T,c,S,V,P,H⟩:=I.ex;obtain⟨j,G,M⟩:=D.ex;have E:j=b:=by
   have c:kW LC (cY p.ao e.A) p.bw p.au.aa0=c7 (b,0):=c;rw[G] at c;injection c with c
   injection c
  subst E;have K:=uF p.ao e.A;refine⟨rfl,rfl,rfl,by show(p.au.aN.map _).length=_;rw[e4],l.gq,rfl,?_,?_,λk L x F=>?_⟩
  .obtain⟨_,d,a,u,J⟩:=D.kI;refine⟨l.gq,d,a,?_,J⟩
   show cj 0 (((cY p.ao e.A).af.length:Int) -1) p.bR.dG
   rw[K];exact u
  .have U:=h.gk;rcases H with⟨d,a⟩ |⟨d,a⟩
   .show sm.an=[]↔p.bz.an=[]
    have a:sm=p.bz:=a;rw[a]
   .have d:p.bz.an≠[]:=d;have a:sm.an.length=p.ao.ai.length:=a;show sm.an=[]↔p.bz.an=[]
    refine⟨λm=>?_,λm=>absurd m d⟩
    rw[m] at a;have u:p.ao.ai.length=0:=a.symm;rcases h.pq with y |y
    .exact y
    .exact ei.1 (by omega)
  .have N:fM n np j:=l.hZ;have t:j.aA≠[]:=l.bne;have w:j.aA[0]?=c7 (j.aA[0]'(eE.2 t)):=c6 _;have C:=e0 (eE.2 t);generalize j.aA[0]'(eE.2 t)=B at w C;have Q:=(N.mX B C).1.1;rcases M B w k (by omega) x (ag6 F (by show p.au.aa0<=p.au.aa0+600;omega)) with o |o
   .exact .inl (O x o)
   .exact .inr o
 |wait h0 |walk _ h0 |look _ _ _ _ h0 |JE _ _ _ _ _ _ _ _ _ h0 |swap _ _ _ _ _ h0 |JD _ _ h0 |guard _ h0 |shut _ _ h0 |xZ _ h0 |JF _ _ h0=>omega
 |xX _ h0=>omega
structure Gh where
 tr:Nat->Tr
 tp:Int->Int->Int
 lk:Nat->Nat->abc
 c:Nat->Nat
structure Ghs (n np:Nat) (G:Gh) (T:Int):Prop where
 ok:∀k,k<n->(G.tr k).Ok T
 oV:∀k,k<n->∀u,0<=u->u<=T->0<=(G.tr k).pl u/\(G.tr k).pl u<(np:Int)
def ala(g:vG)(G:Gh)(T:Int)(bo:List Int)(f:ay):Prop:=
 f.aw=bo/\∀(a:Nat) d,f.aH[a]?=c7 d->Snd g (G.tr a) T d.aa0 (fn d.an)/\∀e,bo[a]?=c7 e->∀c,d.aa0<=c->c<=T->G.tp e c=(G.tr a).pl c
structure aan (m:ak) (G:Gh) (T:Int) (bo:List Int) (b:aL):Prop where
 wok:∀w,w∈b.aA->∀x,x∈w.aH->jK m x/\x.aa0<=T
 tru:∃w,w∈b.aA/\ala (rL m) G T bo w
section
variable {n np:Nat}{m:ak}{G:Gh}{T:Int}{bo:List Int}{b b':aL}
def c9{a:Type}{c:List a}{i:Nat}{d:a}(e:c[i]?=c7 d):i<c.length:=(ey.1 e).1
def fM.lt(d:fM n np b){a:ay}(c:a∈b.aA){i:Nat}{x:aM}(h:a.aH[i]?=c7 x):i<n/\x.an.length=np:=by
 have:=c9 h;exact⟨by have:=(d.mX a c).1.1;omega,(d.mX a c).1.2 x (fC h)⟩
def aan.Ls(F:Ghs n np G T)(M:fM n np b)(h:aan m G T bo b){tag L a t:Int}{w:List Int}(X:a<=L)(R:L<=t)(N:t<=T)(J:G.tp tag L∈w)
 (P:oG (λx y=>y=x\/lG m x w a t y) (λx=>x.aa0<=a/\∀p,p∈w->t<fn x.an p) m tag b b'):aan m G T bo b':=by
 refine⟨λO D y C=>?_,?_⟩
 .obtain⟨o,l,i,x,V,_,d,c,rfl⟩:=P.n.from_ O D;rcases ez C with C |rfl
  .exact h.wok o l y C
  .rcases c with rfl |c
   .exact h.wok o l _ (fC d)
   .exact⟨c.new,by rw[c.time];exact N⟩
 .obtain⟨o,l,ht,B⟩:=h.tru;have key:∀(i:Nat) x,o.aw[i]?=c7 tag->o.aH[i]?=c7 x->x.aa0<=a->(G.tr i).pl L∈w/\fn x.an ((G.tr i).pl L)<=t:=λi x s d ab=>by
   obtain⟨u,A⟩:=B i x d;have Y:=A tag (by rw[<-ht];exact s) L (by omega) (by omega);rw[Y] at J;have ac:=u.ok L (by omega) (by omega);have ad:=(F.ok i (M.lt l d).1).L3 L (by have:=u.lo;omega) (by omega);exact⟨J,by omega⟩
  rcases P.n.b9 o l with⟨O,D,i,x,V,s,d,c,rfl⟩ |⟨i,x,s,d,H⟩
  .refine⟨_,D,ht,λk aa j=>?_⟩
   obtain⟨u,A⟩:=B i x d;dsimp only at j;rw[ga] at j
   split at j
   .rename_i e;subst e
    split at j
    .injection j with j
     subst j;rcases c with rfl |c
     .exact⟨u,A⟩
     .have K:=c.from_;obtain⟨E,I⟩:=key i x s d K;refine⟨?_,λW Z U S Q=>A W Z U (by rw[c.time] at S;omega) Q⟩
      rw[c.time];exact u.Ls (F.ok i (M.lt l d).1) K X R N (c.low _ E I) c.cl
    .cases j
   .exact B k aa j
  .exfalso
   obtain⟨E,I⟩:=key i x s d H.1;have:=H.2 _ E;omega
def aan.abs(J:Ghs n np G T)(aa:fM n np b)(Q:m.ai.length=np)(h:aan m G T bo b){tag a t bl:Int}{C:List Int}(M:t<=T)(X:∀s l,a<=s->l<=t->s<=l->(∀d,s<=d->d<=l->G.tp tag d∈C)->l -s<=bl)
 (R:oG (λx y=>y=x\/∃g1,og m x C a t bl y g1) (λ_=>False) m tag b b'):aan m G T bo b':=by
 refine⟨λO F y D=>?_,?_⟩
 .obtain⟨A,w,i,x,Y,_,u,c,rfl⟩:=R.n.from_ O F;rcases ez D with D |rfl
  .exact h.wok A w y D
  .rcases c with rfl |⟨g1,c⟩
   .exact h.wok A w _ (fC u)
   .exact⟨c.new,by rw[c.time];exact M⟩
 .obtain⟨A,w,ht,N⟩:=h.tru;rcases R.n.b9 A w with⟨O,F,i,x,Y,I,u,c,rfl⟩ |⟨i,x,I,u,V⟩
  .refine⟨_,F,ht,λk af j=>?_⟩
   obtain⟨E,H⟩:=N i x u;dsimp only at j;rw[ga] at j
   split at j
   .rename_i e;subst e
    split at j
    .injection j with j
     subst j;rcases c with rfl |⟨g1,c⟩
     .exact⟨E,H⟩
     .have ah:=c.from_;have hi:=(aa.lt w u).1;have ai:=E.lo;have P:=J.oV i hi;have K:=c.bl;refine⟨?_,λac ae d W U=>H ac ae d (by rw[c.time] at W;omega) U⟩
      rw[c.time];refine E.agP (J.ok i hi) (S:=λq=>q∈C) (b:=max a x.aa0) (to:=t) (blind:=bl) (g1:=fn g1) (by omega) M K.1 K.2 (λs l ad L B ab=>?_) (λd ad L B=>?_) c.c1 ?_ (by have:=c.new.2;rw[c.time] at this;exact this)
      .refine X s l (by omega) L B λd ag Z=>?_
       rw[H tag (by rw[<-ht];exact I) d (by omega) (by omega)];exact ab d ag Z
      .have o:=P d (by omega) (by omega);exact c.off _ o.1 (by rw[Q];exact o.2) B
      .have o:=P t (by omega) (by omega);exact c.le _ o.1 (by rw[Q];exact o.2)
    .cases j
   .exact N k af j
  .exact absurd V id
def acL{g:Type}{a:List g}{i c:Int}(k:0<=i/\i<(a.length:Int))(l:0<=c/\c<(a.length:Int))(d:Nat):(gL i c a)[d]?=if(d:Int)=c then a[i.toNat]? else if(d:Int)=i then a[c.toNat]? else a[d]? :=by
 have h:a[i.toNat]?=c7 (a[i.toNat]'(by omega)):=c6 (by omega);have j:a[c.toNat]?=c7 (a[c.toNat]'(by omega)):=c6 (by omega);unfold gL;rw[h,j];dsimp only;rw[ga,ga,dT]
 by_cases e:(d:Int)=c
 .rw[if_pos e,if_pos (by omega),if_pos (by omega)]
 .rw[if_neg e,if_neg (by omega)]
  by_cases f:(d:Int)=i
  .rw[if_pos f,if_pos (by omega),if_pos (by omega)]
  .rw[if_neg f,if_neg (by omega)]
def akY{d:Type}{a:List d}{i c:Int}:(gL i c a).length=a.length:=by
 unfold gL
 split
 .rw[dT,dT]
 .rfl
def jK.later{x a:aM}(h:jK m x)(c:a.an=x.an)(ht:x.aa0<=a.aa0)(k:a.aa0<=2147483648):jK m a:=by
 obtain⟨⟨e,l,d⟩,j⟩:=h;refine⟨⟨by rw[c];exact e,⟨by omega,k⟩,by rw[c];exact d⟩,?_⟩
 rw[c];exact EF j ht
def aan.Np(F:Ghs n np G T)(B:fM n np b)(h:aan m G T bo b)(Y:0<=T/\T<=2147483648){i c:Int}(P:(G.tr i.toNat).pl T=(G.tr c.toNat).pl T)(E:AY m i c T n np b b'):aan m G T (gL i c bo) b':=by
 obtain⟨aE,O,_,aN,ab,ao⟩:=E.ex;obtain⟨hi,aF,aC,_⟩:=E.ix;have rz:∀{a:ay} {k:Nat} {l:aM},(kH c T (kH i T a.aH))[k]?=c7 l->∃d,a.aH[k]?=c7 d/\l.an=d.an/\d.aa0<=l.aa0/\(l.aa0=d.aa0\/l.aa0=T)/\(((k:Int)=i\/(k:Int)=c)->T<=l.aa0):=λ{a k l} o=>by
  obtain⟨aJ,a1,aB,aK,aQ,ai⟩:=F3 o;obtain⟨d,an,ae,aP,aI,av⟩:=F3 a1;refine⟨d,an,aB.trans ae,by omega,by omega,λy=>?_⟩
  rcases y with y |y
  .have:=av y Y.2;omega
  .exact ai y Y.2
 have Q:∀t,t∈b'.aA->∀x,x∈t.aH->jK m x/\x.aa0<=T:=by
  refine O.b (λx=>jK m x/\x.aa0<=T) (λx C _ _ u S=>⟨u.1.join S.1 E.v.fN,by show max x.aa0 C.aa0<=T;have:=u.2;have:=S.2;omega⟩) λa j x u=>?_
  rcases ao a j with j |⟨au,ac,rfl⟩
  .exact h.wok a j x u
  .obtain⟨k,o,rfl⟩:=dt.1 u;obtain⟨d,c1,J,aa,ak,_⟩:=rz (c6 o);have:=h.wok au ac d (fC c1);exact⟨this.1.later J aa (by omega),by omega⟩
 refine⟨Q,?_⟩
 obtain⟨a,j,ht,o⟩:=h.tru;obtain⟨⟨aG,aL⟩,aq⟩:=B.mX a j;have ex:a.aH[i.toNat]?=c7 (a.aH[i.toNat]'(by omega)):=c6 (by omega);have A:a.aH[c.toNat]?=c7 (a.aH[c.toNat]'(by omega)):=c6 (by omega);generalize a.aH[i.toNat]'(by omega)=x at ex;generalize a.aH[c.toNat]'(by omega)=C at A;obtain⟨Z,az⟩:=o _ x ex;obtain⟨U,ap⟩:=o _ C A;have aev:∀{k:Nat} {z},a.aH[k]?=c7 z->Snd (rL m) (G.tr k) T z.aa0 (fn z.an)->(G.tr k).pl T∈dz z T:=λ{k z} H sz=>by
  have D:=F.oV k (B.lt j H).1 T (by omega) (dk _);have E:=(F.ok k (B.lt j H).1).L3 T (by omega) (dk _);have:=sz.ok T sz.le (dk _);exact Sq.2 ⟨D.1,by rw[(B.lt j H).2];exact D.2,by omega⟩
 obtain⟨t,N,al,am⟩:=O.a _ (ab a x C j ex A ⟨_,aev ex Z,by rw[P];exact aev A U⟩);have af:=(O.c t N).1;refine⟨t,N,by rw[al];show gL i c a.aw=_;rw[ht],λk V M=>?_⟩
 have aw:k<n:=by have:=c9 M;have:=af.1;omega
 have aj:k<(rU i c T a).aH.length:=by show k<(kH c T (kH i T a.aH)).length;rw[ID,ID];omega
 have K:(rU i c T a).aH[k]?=c7 ((rU i c T a).aH[k]):=c6 aj;generalize (rU i c T a).aH[k]=l at K;obtain⟨aD,ar⟩:=am k l V K M;obtain⟨d,c1,J,aa,ak,R⟩:=rz K;obtain⟨W,aA⟩:=o k d c1;have ag:=(Q t N V (fC M)).2;have D:=F.oV k aw;have aO:=W.lo;refine⟨W.raise (by omega) ag λw ax I=>?_,λL s w ax I=>?_⟩
 .have X:=D w (by omega) I;have:=ar _ X.1 X.2;rw[J] at this;exact this
 .have aH:bo.length=n:=by rw[<-ht];exact aq
  rw[acL (by omega) (by omega)] at s
  split at s
  .rename_i ah;have:=R (.inr ah);have e:w=T:=by omega
   rw[e,az L s T Z.le (dk _),P,show c.toNat=k by omega]
  .split at s
   .rename_i ad;have:=R (.inl ad);have e:w=T:=by omega
    rw[e,ap L s T U.le (dk _), <-P,show i.toNat=k by omega]
   .exact aA L s w (by omega) I
def ai8(q:Ghs n np G T)(j:0<=T){o h:vG}{a:Nat}(p:a<n){c:aM}{g:Int->Int}(f:Snd o (G.tr a) T c.aa0 (fn c.an))(i:g ((G.tr a).pl T)<=fn c.an ((G.tr a).pl T)):Snd h (G.tr a) T T g:=
 ⟨j,dk _,λd e k=>absurd e (by omega),λd e k=>by
  have l:d=T:=by omega
  rw[l];exact hX i (f.ok T f.le (dk _))⟩
def aan.renew(u:Ghs n np G T)(F:fM n np b)(h:aan m G T bo b)(B:0<=T){m':ak}(L:m'.ai.length=np)(M:gG (λx c=>mP m' x T c) b.aA b'.aA):aan m' G T bo b':=by
 obtain⟨P,C⟩:=M;refine⟨λR J c d=>?_,?_⟩
 .obtain⟨i,hi,rfl⟩:=dt.1 J;obtain⟨k,o,rfl⟩:=dt.1 d;have j:b.aA[i]?=c7 (b.aA[i]'(by omega)):=c6 _;obtain⟨_,r2,e⟩:=C i _ _ j (c6 hi);have a:(b.aA[i]'(by omega)).aH[k]?=c7 ((b.aA[i]'(by omega)).aH[k]'(by omega)):=c6 _;have:=e k _ _ a (c6 o);exact⟨this.new,by rw[this.time];exact dk _⟩
 .obtain⟨Q,w,ht,o⟩:=h.tru;obtain⟨i,hi,rfl⟩:=dt.1 w;have j:=c6 hi;have a:b'.aA[i]?=c7 (b'.aA[i]'(by omega)):=c6 _;obtain⟨r1,r2,e⟩:=C i _ _ j a;refine⟨_,fC a,by rw[r1];exact ht,λk c d=>?_⟩
  have O:=c9 d;have s:b.aA[i].aH[k]?=c7 (b.aA[i].aH[k]'(by omega)):=c6 _;have l:=e k _ c s d;obtain⟨y,N⟩:=o k _ s;have A:=(F.lt w s).1;have t:=u.oV k A T B (dk _);refine⟨?_,λH K E I D=>N H K E (by rw[l.time] at I;have:=y.le;omega) D⟩
  rw[l.time];exact ai8 u B A y (l.le _ t.1 (by rw[L];exact t.2))
def aan.shut(y:Ghs n np G T)(X:fM n np b)(h:aan m G T bo b)(D:0<=T){H:List Int}(ad:m.ai.length=np)(ae:Ff m b H T n np b'):∃c,ki m H c/\aan c G T bo b':=by
 obtain⟨c,s,E,⟨aj,P⟩,C⟩:=ae.ex;have F:∀a,a∈b'.aA->∀x,x∈a.aH->jK c x/\x.aa0<=T:=by
  refine C.b (λx=>jK c x/\x.aa0<=T) (λx ac _ _ I L=>⟨I.1.join L.1 (adg E),by show max x.aa0 ac.aa0<=T;have:=I.2;have:=L.2;omega⟩) λa e o d=>?_
  obtain⟨i,hi,rfl⟩:=dt.1 e;obtain⟨k,A,rfl⟩:=dt.1 d;have w:b.aA[i]?=c7 (b.aA[i]'(by omega)):=c6 _;obtain⟨_,r2,u⟩:=P i _ _ w (c6 hi);have l:(b.aA[i]'(by omega)).aH[k]?=c7 ((b.aA[i]'(by omega)).aH[k]'(by omega)):=c6 _;have:=u k _ _ l (c6 A);exact⟨this.new,by rw[this.time];exact dk _⟩
 refine⟨c,E,F,?_⟩
 obtain⟨ak,M,ht,A⟩:=h.tru;obtain⟨i,hi,rfl⟩:=dt.1 M;have w:=c6 hi;have l:s[i]?=c7 (s[i]'(by omega)):=c6 _;obtain⟨r1,r2,u⟩:=P i _ _ w l;obtain⟨a,e,V,W⟩:=C.a _ (fC l);have S:=(C.c a e).1;have al:=(X.mX _ M).1.1;refine⟨a,e,by rw[V,r1];exact ht,λk o d=>?_⟩
 have ah:=c9 d;have B:k<n:=by have:=S.1;omega
 have O:b.aA[i].aH[k]?=c7 (b.aA[i].aH[k]'(by omega)):=c6 _;have K:(s[i]'(by omega)).aH[k]?=c7 ((s[i]'(by omega)).aH[k]'(by omega)):=c6 _;have J:=u k _ _ O K;obtain⟨Q,Z⟩:=W k _ o K d;obtain⟨t,af⟩:=A k _ O;have j:=y.oV k B T D (dk _);have ai:=(F a e o (fC d)).2;have N:o.aa0=T:=by rw[J.time] at Q;omega
 have am:=(y.ok k B).L3 T D (dk _);have ag:=t.ok T t.le (dk _);refine⟨?_,λY ab U aa R=>af Y ab U (by rw[N] at aa;have:=t.le;omega) R⟩
 rw[N];refine ai8 y D B t (hX (Z _ j.1 j.2) (J.le _ j.1 (by rw[E.pl,ad];exact j.2) (by omega)))
def Gh.tick(G:Gh)(T d:Int)(bo:List Int)(f:Nat->Int×Int):Gh:=
 {G with tr:=λk=>(G.tr k).ext T d (f k).1 (f k).2,tp:=λa c=>if c<=T then G.tp a c else if a∈bo then((G.tr (bo.idxOf a)).ext T d (f (bo.idxOf a)).1 (f (bo.idxOf a)).2).pl c else -1}
def agw{a:List Int}(g:a.Nodup){c:Nat}{d:Int}(e:a[c]?=c7 d):a.idxOf d=c:=by
 obtain⟨f,rfl⟩:=ey.1 e;exact g.idxOf_getElem c f
def Ghs.tick(h:Ghs n np G T)(j:0<=T){a:Int}(l:T<a)(s:a<=SM){f:Nat->Int×Int}(o:∀k,k<n->(0<=(f k).1/\(f k).1<(np:Int))/\0<=(f k).2/\(f k).2<=a):Ghs n np (G.tick T a bo f) a:=by
 refine⟨λk c=>(h.ok k c).ext j l s (o k c).2,λk c d w x=>?_⟩
 show 0<=((G.tr k).ext T a (f k).1 (f k).2).pl d/\((G.tr k).ext T a (f k).1 (f k).2).pl d<(np:Int)
 by_cases e:d<=T
 .rw[(Tr.abS e).1];exact h.oV k c d w e
 .by_cases u:d<a
  .rw[(Tr.ab8 (by omega) u).1];exact h.oV k c T j (dk _)
  .have t:d=a:=by omega
   rw[t,(Tr.acW l).1];exact(o k c).1
def aan.tick(y:Ghs n np G T)(B:fM n np b)(h:aan m G T bo b){a:Int}(D:T<a)(w:a<=SM)(u:bo.Nodup){f:Nat->Int×Int}
 (A:∀k,k<n->((f k).1=(G.tr k).pl T/\(f k).2=(G.tr k).L3 T)\/∃z,rL m ((G.tr k).pl T) (f k).1 z/\(G.tr k).L3 T+z<=a/\(f k).2=a):aan m (G.tick T a bo f) a bo b:=by
 refine⟨λo j x c=>⟨(h.wok o j x c).1,by have:=(h.wok o j x c).2;omega⟩,?_⟩
 obtain⟨o,j,ht,C⟩:=h.tru;refine⟨o,j,ht,λk x c=>?_⟩
 obtain⟨E,H⟩:=C k x c;have t:=(B.lt j c).1;refine⟨E.tick (y.ok k t) (h.wok o j x (fC c)).1.2 D w (A k t),λl s d F I=>?_⟩
 show(if d<=T then G.tp l d else if l∈bo then((G.tr (bo.idxOf l)).ext T a (f (bo.idxOf l)).1 (f (bo.idxOf l)).2).pl d else -1)=((G.tr k).ext T a (f k).1 (f k).2).pl d
 by_cases e:d<=T
 .rw[if_pos e,(Tr.abS e).1];exact H l s d F e
 .rw[if_neg e,if_pos (fC s),agw u s]
def aan.now(l:Ghs n np G T)(u:fM n np b)(h:aan m G T bo b)(e:0<=T):∃a,a∈b.aA/\a.aw=bo/\∀k x,a.aH[k]?=c7 x->(G.tr k).pl T∈dz x T:=by
 obtain⟨a,d,ht,t⟩:=h.tru;refine⟨a,d,ht,λk x o=>?_⟩
 obtain⟨s,y⟩:=t k x o;have c:=u.lt d o;have j:=l.oV k c.1 T e (dk _);have w:=(l.ok k c.1).L3 T e (dk _);have:=s.ok T s.le (dk _);exact Sq.2 ⟨j.1,by rw[c.2];exact j.2,by omega⟩
end
def agx{b:ak}(j:cP b){i p:Int}(a:0<=mQ b i p):rL b p (other b i p) (mQ b i p)/\0<=other b i p/\other b i p<(b.ai.length:Int):=by
 by_cases h0:0<=i
 rotate_left
 .unfold mQ at a;rw[if_neg h0] at a;omega
 cases d:b.af[i.toNat]? with
 |none=>unfold mQ at a;rw[if_pos h0,d] at a;dsimp only at a;omega
 |some r=>
  have g:=(j.2.2.2 r (fC d)).1;have h:((i.toNat:Nat):Int)=i:=by omega
  unfold mQ at a⊢;unfold other;rw[if_pos h0,d] at a;rw[if_pos h0,if_pos h0,d];dsimp only at a⊢
  by_cases c:p=r.an
  .rw[if_pos c] at a;rw[if_pos c,if_pos c];exact⟨⟨i.toNat,r,false,d,by rw[h],a,by rw[c];rfl,rfl⟩,g.2.2.1,g.2.2.2.1⟩
  .rw[if_neg c] at a;rw[if_neg c,if_neg c]
   by_cases f:p=r.To
   .rw[if_pos f] at a;rw[if_pos f,if_pos f];exact⟨⟨i.toNat,r,true,d,by rw[h],a,by rw[f];rfl,rfl⟩,g.1,g.2.1⟩
   .rw[if_neg f] at a;omega
def ki.same{m d:ak}{l:List Int}(h:ki m l d){i:Int}(h0:0<=i)(hi:i∉l):d.af[i.toNat]?=m.af[i.toNat]? :=by
 have k:=h.len;cases c:m.af[i.toNat]? with
 |none=>
  have:=List.getElem?_eq_none_iff.1 c;exact h5 (by omega)
 |some r=>
  have:=c9 c;have e:=c6 (l:=d.af) (i:=i.toNat) (by omega);have j:((i.toNat:Nat):Int)=i:=by omega
  rcases h.off i.toNat r _ c e with⟨a,_⟩ |⟨_,a⟩
  .rw[e,a]
  .rw[j] at a;exact absurd a hi
def ki.ad2{m d c:ak}{l:List Int}(h:ki m l d)(o:ki m l c):c=d:=by
 have w:=h.len;have u:=o.len;have e:c.af=d.af:=by
  refine List.ext_getElem? λi=>?_
  by_cases hi:i<m.af.length
  .have er:=c6 hi;have t:=c6 (l:=d.af) (i:=i) (by omega);have a:=c6 (l:=c.af) (i:=i) (by omega);rw[t,a];rcases h.off i _ _ er t with⟨a1,s⟩ |⟨a1,s⟩
   .rcases o.off i _ _ er a with⟨j,k⟩ |⟨j,k⟩
    .rw[a1,j]
    .exact absurd k s
   .rcases o.off i _ _ er a with⟨j,k⟩ |⟨j,k⟩
    .exact absurd s k
    .rw[a1,j]
  .rw[h5 (by omega),h5 (by omega)]
 have a:=h.pl.trans o.pl.symm;cases d;cases c
 dsimp only at e a;rw[e,a]
def ki.arc{m a:ak}{j:List Int}(h:ki m j a){i p:Int}(hi:i∉j)(c:0<=mQ m i p):rL a p (other m i p) (mQ m i p):=by
 by_cases h0:0<=i
 rotate_left
 .unfold mQ at c;rw[if_neg h0] at c;omega
 have d:∀b,wT a i b 6 9 12=wT m i b 6 9 12:=λb=>by
  unfold wT;rw[h.same h0 hi]
  by_cases l:cP m/\0<=i
  .rw[if_pos l,if_pos ⟨adg h,h0⟩];cases m.af[i.toNat]? with
   |none=>rfl
   |some r=>dsimp only;unfold wt T.fy jo;rw[h.pl]
  .exact absurd ⟨h.fN,h0⟩ l
 have k:mQ a i p=mQ m i p:=by
  unfold mQ;rw[h.same h0 hi,d,d]
 have o:other a i p=other m i p:=by
  unfold other;rw[h.same h0 hi]
 have:=(agx (adg h) (i:=i) (p:=p) (by rw[k];exact c)).1;rw[k,o] at this;exact this
structure af7 (x:aB) (G:Gh) (L:Nat) (k:Nat) (rd:aS):Prop where
 lks:aaA (λq=>q∈rd.ai) rd.dX rd.dY G.tp x.aa0 (G.lk k) (G.c k)
 nn:∀i,i<G.c k->0<=(G.lk k i).num/\0<=(G.lk k i).t/\(G.lk k i).num<=2*(L:Int)
 num:∃a l row,x.cn[k]?=c7 a/\x.cf[k]?=c7 l/\x.bp[k]?=c7 row/\((G.c k=0/\a= -1/\l= -1)\/(0<G.c k/\a=(G.lk k (G.c k -1)).num/\l=(G.lk k (G.c k -1)).t))/\
  ∀(i:Nat) X,x.aw[i]?=c7 X->∃v,row[i]?=c7 v/\0<=v/\v<=rd.dY/\(v.toNat<G.c k->G.tp X (G.lk k (G.c k -1 -v.toNat)).t∈rd.ai->X∈(G.lk k (G.c k -1 -v.toNat)).bo)
def Rec(c:List aS)(G:Gh)(a:Nat)(r:aT):Prop:=r.agX=(a:Int)/\∃(b:aS) (i:Nat),c[a]?=c7 b/\i<G.c a/\(G.lk a i).num=r.aj6/\(G.lk a i).bo=r.aw/\(G.lk a i).t -b.cR<=r.aa0/\r.aa0<=(G.lk a i).t+b.cR
structure L4 (n np:Nat) (G:Gh) (L:Nat) (p:aE):Prop where
 gs:Ghs n np G p.au.aa0
 t0:0<=p.au.aa0/\p.au.aa0<=2147483648
 now:∀(k:Nat) w,p.au.aN[k]?=c7 w->(G.tr k).pl p.au.aa0=w.abG/\(0<=w.akw->0<=mQ p.ao w.akw w.abG/\(G.tr k).L3 p.au.aa0+mQ p.ao w.akw w.abG<=p.au.aa0+w.ami)/\aas p.aa2 w.akw
 yp:p.au.aw.length=n/\p.au.aw.Nodup
 off:∀X,X∉p.au.aw->∀u,G.tp X u= -1
 jR:∀(k:Nat) rd,p.au.aQ[k]?=c7 rd->lS np rd/\af7 p.au G L k rd
 abA:∀(k:Nat) r a,p.cq[k]?=c7 r->p.au.cn[k]?=c7 a->0<=a->Rec p.au.aQ G k r
 heard:∀r,r∈p.bZ->∃k:Nat,Rec p.au.aQ G k r
 hZ:aan p.ao G p.au.aa0 p.au.aw p.bw
 je:p.bq.aA≠[]->p.aa2.Out=true/\∃bm,ki p.ao p.aa2.af bm/\aan bm G p.au.aa0 p.au.aw p.bq
section
variable {n np:Nat}{G:Gh}{L:Nat}{p:aE}{e:bH}
def af7.more{x:aB}{k:Nat}{rd:aS}(h:af7 x G L k rd):af7 x G (L+1) k rd:=
 ⟨h.lks,λi hi=>by have:=h.nn i hi;exact⟨this.1,this.2.1,by have:=this.2.2;omega⟩,h.num⟩
def L4.more(h:L4 n np G L p):L4 n np G (L+1) p:={h with jR:=λk rd a=>⟨(h.jR k rd a).1,(h.jR k rd a).2.more⟩}
def L4.car(s:dW n np p)(h:L4 n np G L p){k:Nat}{a:Int}(c:p.au.aw[k]?=c7 a):G.tp a p.au.aa0=(G.tr k).pl p.au.aa0:=by
 obtain⟨d,j,ht,m⟩:=h.hZ.tru;have u:k<n:=by have:=c9 c;have:=h.yp.1;omega
 have t:=(s.hZ.mX d j).1.1;obtain⟨o,l⟩:=m k _ (c6 (show k<d.aH.length by omega));exact l a c _ o.le (dk _)
def aaA.ext{l:Int->Prop}{j t T s:Int}{tp u:Int->Int->Int}{lk:Nat->abc}{c:Nat}(h:aaA l j t tp T lk c)(B:T<=s)(m:∀a d,d<=T->u a d=tp a d):aaA l j t u s lk c:=
 ⟨λi hi=>by have:=h.bG i hi;omega,λi a hi A=>by rw[m a _ (h.bG i hi)];exact h.seen i a hi A,h.adj,λa i hi=>by
  obtain⟨o,y,x,w⟩:=h.win a i hi;exact⟨o,y,x,λk=>w (by rw[m a _ (h.bG o (by omega))] at k;exact k)⟩⟩
def aar(p:aE)(G:Gh)(c:Int)(a:Nat):Int×Int:=match p.au.aN[a]? with
 |some b=>if ¬b.akw<0/\b.ami -c<=0 then(other p.ao b.akw b.abG,p.au.aa0+c) else((G.tr a).pl p.au.aa0,(G.tr a).L3 p.au.aa0)
 |none=>((G.tr a).pl p.au.aa0,(G.tr a).L3 p.au.aa0)
def aas.out{k:bA}(a:ff k)(d:k.Out=true){r:Int}(h:aas k r):r∉k.af:=λc=>by
 obtain⟨i,hi,rfl⟩:=dt.1 c;have j:=a.2.1;have e:=c6 (l:=k.aa2) (i:=i) (by omega);have o:=h i _ (c6 hi) e;have m:=a.2.2.2 d _ (fC e);omega
def asG(k:dW n np p)(f:L4 n np G L p)(X:fw p.au){c:Int}(h0:0<c)(y:p.au.aa0+c<=2147483648):L4 n np (G.tick p.au.aa0 (p.au.aa0+c) p.au.aw (aar p G c)) L {p with au:=x7 p.au c}:=by
 have E:=f.t0;have N:=k.fN;have av:=k.gk;have Q:∀b,b<n->∃d,p.au.aN[b]?=c7 d/\sq p.ao d:=λb g=>by
  have O:b<p.au.aN.length:=by rw[k.iz];exact g
  exact⟨_,c6 O,by rw[<-N];exact X.2.2.2.2.2.2.2.2.2 _ (e0 O)⟩
 have ap:∀b,b<n->0<=(G.tr b).L3 p.au.aa0/\(G.tr b).L3 p.au.aa0<=p.au.aa0:=λb g=>(f.gs.ok b g).L3 _ E.1 (dk _)
 have ae:∀b,b<n->(0<=(aar p G c b).1/\(aar p G c b).1<(np:Int))/\0<=(aar p G c b).2/\(aar p G c b).2<=p.au.aa0+c:=λb g=>by
  obtain⟨d,h,ak⟩:=Q b g;obtain⟨q,r,t⟩:=f.now b d h;unfold aar;rw[h];dsimp only;have s:=f.gs.oV b g _ E.1 (dk _);have ao:=ap b g
  split
  .rename_i Y;have:=(agx k.gq (r (by omega)).1).2;exact⟨by dsimp only;omega,by dsimp only;omega,dk _⟩
  .exact⟨s,ao.1,by dsimp only;omega⟩
 have M:∀b,b<n->(((aar p G c b).1=(G.tr b).pl p.au.aa0/\(aar p G c b).2=(G.tr b).L3 p.au.aa0)\/∃d,p.au.aN[b]?=c7 d/\0<=d.akw/\0<=mQ p.ao d.akw d.abG/\(aar p G c b).1=other p.ao d.akw d.abG/\(G.tr b).pl p.au.aa0=d.abG/\(G.tr b).L3 p.au.aa0+mQ p.ao d.akw d.abG<=p.au.aa0+c/\(aar p G c b).2=p.au.aa0+c/\aas p.aa2 d.akw):=λb g=>by
  obtain⟨d,h,ak⟩:=Q b g;obtain⟨q,r,t⟩:=f.now b d h;unfold aar;rw[h];dsimp only
  split
  .rename_i Y;have:=r (by omega);exact .inr ⟨d,rfl,by omega,this.1,rfl,q,by omega,rfl,t⟩
  .exact .inl ⟨rfl,rfl⟩
 have x:p.au.aa0<p.au.aa0+c:=by omega
 have K:∀j m,m<=p.au.aa0->(G.tick p.au.aa0 (p.au.aa0+c) p.au.aw (aar p G c)).tp j m=G.tp j m:=λj m al=>if_pos al
 refine⟨f.gs.tick E.1 x y ae,⟨by show 0<=p.au.aa0+c;omega,y⟩,λb am ah=>?_,f.yp,λj B m=>?_,λb S Z=>?_,f.abA,f.heard,?_,λaj=>?_⟩
 .have o:(p.au.aN.map (uf p.au.ao c))[b]?=c7 am:=ah;rw[ev] at o;cases h:p.au.aN[b]? with
  |none=>rw[h] at o;cases o
  |some d=>
   rw[h] at o;injection o with o
   subst o;have g:b<n:=by have:=c9 h;rw[k.iz] at this;exact this
   obtain⟨q,r,t⟩:=f.now b d h;have H:=(Tr.acW (tr:=G.tr b) (p:=(aar p G c b).1) (a:=(aar p G c b).2) x);show((G.tr b).ext p.au.aa0 (p.au.aa0+c) (aar p G c b).1 (aar p G c b).2).pl (p.au.aa0+c)=_/\(_->_/\((G.tr b).ext p.au.aa0 (p.au.aa0+c) (aar p G c b).1 (aar p G c b).2).L3 (p.au.aa0+c)+_<=p.au.aa0+c+_)/\_
   rw[H.1,H.2,N];unfold aar uf;rw[h];dsimp only
   by_cases s:d.akw<0
   .rw[if_neg (by omega),if_pos s];exact⟨q,λl=>absurd l (by omega),t⟩
   .rw[if_neg s]
    by_cases u:d.ami -c<=0
    .rw[if_pos ⟨s,u⟩,if_pos u];refine⟨rfl,λl=>absurd l (show ¬(0:Int)<=-1 by decide),λi z P _=>?_⟩
     have:=(k.jY.mem (fC P)).1;have aq:p.aa2.af[i]?=c7 (-1):=P;have:=(k.jY.mem (fC aq)).1;omega
    .rw[if_neg (λl=>u l.2),if_neg u];have:=r (by omega);exact⟨q,λ_=>⟨this.1,by dsimp only;omega⟩,t⟩
 .show(if m<=p.au.aa0 then G.tp j m else if j∈p.au.aw then _ else -1)= -1
  rw[if_neg (show j∉p.au.aw from B)]
  split
  .exact f.off j B m
  .rfl
 .obtain⟨an,w⟩:=f.jR b S Z;refine⟨an,aaA.ext w.lks (by show _<=p.au.aa0+c;omega) K,w.nn,?_⟩
  obtain⟨a,V,row,ai,ab,T,ag,ar⟩:=w.num;refine⟨a,V,row,ai,ab,T,ag,λi j B=>?_⟩
  obtain⟨v,ac,aa,U,W⟩:=ar i j B;refine⟨v,ac,aa,U,λJ F=>W J ?_⟩
  have aw:v.toNat<G.c b:=J;have I:(G.tick p.au.aa0 (p.au.aa0+c) p.au.aw (aar p G c)).tp j (G.lk b (G.c b -1 -v.toNat)).t∈S.ai:=F;have A:=w.lks.bG (G.c b -1 -v.toNat) (by omega);rw[K j _ A] at I;exact I
 .refine f.hZ.tick f.gs k.hZ x y f.yp.2 λb g=>?_
  rcases M b g with l |⟨d,h,af,D,C,w4,w5,w6,w7⟩
  .exact .inl l
  .exact .inr ⟨_,by rw[C,w4];exact(agx k.gq D).1,w5,w6⟩
 .obtain⟨A,ad,R,F⟩:=f.je aj;refine⟨A,ad,R,F.tick f.gs k.je x y f.yp.2 λb g=>?_⟩
  rcases M b g with l |⟨d,h,af,D,C,w4,w5,w6,w7⟩
  .exact .inl l
  .exact .inr ⟨_,by rw[C,w4];exact R.arc (w7.out k.key A) D,w5,w6⟩
def alj(m:dW n np p)(a:L4 n np G L p){f r i:Int}{d:bC}(x:0<=f)(v:0<=i)(k:p.au.aN[f.toNat]?=c7 d)(j:0<=mQ p.au.ao r d.abG)(q:aas p.aa2 r):L4 n np G L {p with au:={p.au with aN:=p.au.aN.set f.toNat ⟨d.abG,r,mQ p.au.ao r d.abG+i⟩}}:=by
 refine⟨a.gs,a.t0,λc l t=>?_,a.yp,a.off,λc h g=>⟨(a.jR c h g).1,(a.jR c h g).2.lks,(a.jR c h g).2.nn,(a.jR c h g).2.num⟩,a.abA,a.heard,a.hZ,a.je⟩
 have b:(p.au.aN.set f.toNat ⟨d.abG,r,mQ p.au.ao r d.abG+i⟩)[c]?=c7 l:=t;rw[ga] at b
 split at b
 .rename_i e
  split at b
  .injection b with b
   subst b;subst e;obtain⟨o,w,z⟩:=a.now _ d k;have s:f.toNat<n:=by have:=c9 k;rw[m.iz] at this;exact this
   have y:=(a.gs.ok _ s).L3 _ a.t0.1 (dk _);have u:=m.fN;rw[u] at j⊢;exact⟨o,λ_=>⟨j,by dsimp only;omega⟩,q⟩
  .cases b
 .exact a.now c l b
end
section
variable {n np:Nat}{G:Gh}{L:Nat}{p:aE}{e:bH}
def Gh.look(G:Gh)(k:Nat)(x:abc):Gh:={G with lk:=λa i=>if a=k/\i=G.c k then x else G.lk a i,c:=λa=>if a=k then G.c k+1 else G.c a}
def Gh.ae5{G:Gh}{k:Nat}{x:abc}{a i:Nat}(h:a≠k\/i≠G.c k):(G.look k x).lk a i=G.lk a i:=if_neg (by omega)
def Gh.acH{G:Gh}{k:Nat}{x:abc}:(G.look k x).lk k (G.c k)=x:=if_pos ⟨rfl,rfl⟩
def Gh.abU{G:Gh}{k:Nat}{x:abc}:(G.look k x).c k=G.c k+1:=if_pos rfl
def Gh.agk{G:Gh}{k:Nat}{x:abc}{a:Nat}(h:a≠k):(G.look k x).c a=G.c a:=if_neg h
def Rec.look{rs:List aS}{k a:Nat}{x:abc}{r:aT}(h:Rec rs G a r):Rec rs (G.look k x) a r:=by
 obtain⟨l,rd,i,j,c,m,s,d,o⟩:=h;have e:(G.look k x).lk a i=G.lk a i:=Gh.ae5 (by
  by_cases e:a=k
  .subst e;exact .inr (by omega)
  .exact .inl e)
 refine⟨l,rd,i,j,?_,by rw[e];exact m,by rw[e];exact s,by rw[e];exact d,by rw[e];exact o⟩
 by_cases e:a=k
 .subst e;rw[Gh.abU];omega
 .rw[Gh.agk e];exact c
def arU(ah:dW n np p)(d:L4 n np G L p)(a9:L<=1000){a:Nat}{a0:Int}{h:aS}{an:aB}{r:aT}(x:cf p.au a a0 h an r):∃ao,L4 n np ao (L+1) {p with au:=an,cq:=p.cq.set a r}:=by
 obtain⟨row,X,ag,y,ac,K,O,am,W,ax,aM,ba,aA,aY⟩:=x.ex;obtain⟨ae,u⟩:=d.jR a h x.eZ;obtain⟨bd,a7,a6,D,B,C,al,ad⟩:=u.num;rw[O] at D;injection D with D;subst D
 rw[am] at B;injection B with B;subst B
 rw[K] at C;injection C with C;subst C
 have aq:=d.t0;have a8:=x.QX;have H:r.aj6=y+(if 0<=ac/\h.dX<p.au.aa0 -ac then 2 else 1)/\-1<=y/\y<=2*(L:Int):=by
  have ay: -1<=y/\y<=2*(L:Int):=by
   rcases al with⟨_,q,_⟩ |⟨a4,q,_⟩
   .omega
   .have:=u.nn (G.c a -1) (by omega);omega
  refine⟨?_,ay⟩
  rw[ax]
  split <;> exact hI (by omega) (by omega)
 obtain⟨H,bb⟩:=H;have aQ:0<=r.aj6/\r.aj6<=2*(L:Int)+2:=by rw[H];split <;> omega
 have P:∀c,c∈r.aw↔c∈ag:=λc=>by rw[aA];exact(uK ag).mem_iff
 let t:abc:=⟨p.au.aa0,r.aj6,r.aw⟩
 have N:∀{i:Nat} {j:bC} {c:Int},p.au.aN[i]?=c7 j->p.au.aw[i]?=c7 c->G.tp c p.au.aa0=j.abG:=λ{i j c} k g=>by rw[d.car ah g,(d.now i j k).1]
 have ai:∀{i:Nat} {c:Int},p.au.aw[i]?=c7 c->∃j,p.au.aN[i]?=c7 j:=λ{i c} g=>by
  have K:=c9 g;have O:=d.yp.1;exact⟨_,c6 (show i<p.au.aN.length by rw[ah.iz];omega)⟩
 have ap:=ae.2.2.2.1;have aF:aaA (λq=>q∈h.ai) h.dX h.dY G.tp p.au.aa0 (λi=>if i=G.c a then t else G.lk a i) (G.c a+1):=by
  refine u.lks.look rfl (λc g=>?_) (λR aL ar=>?_) (λc aL=>?_)
  .obtain⟨i,j,k,w,z⟩:=W.tag c ((P c).1 g);rw[N k w];exact z
  .rcases al with⟨q,_⟩ |⟨_,az,ql⟩
   .omega
   .have a5:=u.nn (G.c a -1) (by omega);have af:=u.lks.bG (G.c a -1) (by omega);show(r.aj6=R.num+1/\p.au.aa0 -R.t<=h.dX)\/r.aj6=R.num+2
    rw[ar, <-az, <-ql,H]
    split
    .exact .inr rfl
    .exact .inl ⟨rfl,by omega⟩
  .by_cases g:c∈p.au.aw
   .obtain⟨i,s,rfl⟩:=dt.1 g;have w:=c6 s;obtain⟨j,k⟩:=ai w;obtain⟨v,U,T,Q,Y⟩:=W.Hg i j _ k w;obtain⟨aO,l,av,aD,S⟩:=ad i _ w;rw[T] at l;injection l with l;subst l
    rcases Y with⟨_,z⟩ |⟨I,ak⟩
    .refine⟨G.c a,by omega,gy _,λf=>?_⟩
     rw[if_pos rfl] at f⊢;have m:G.tp p.au.aw[i] p.au.aa0∈h.ai:=f;rw[N k w] at m;exact(P _).2 (z m)
    .refine⟨G.c a -1 -v.toNat,by omega,by omega,λf=>?_⟩
     rw[if_neg (by omega)] at f⊢;exact S (by omega) f
   .refine⟨G.c a,by omega,gy _,λf=>?_⟩
    rw[if_pos rfl] at f;have m:G.tp c p.au.aa0∈h.ai:=f;rw[d.off c g] at m;have:=(ae.2.1.mem m).1;omega
 have aE:(G.look a t).lk a=λi=>if i=G.c a then t else G.lk a i:=by
  funext i
  show(if a=a/\i=G.c a then t else G.lk a i)=_
  by_cases e:i=G.c a
  .rw[if_pos ⟨rfl,e⟩,if_pos e]
  .rw[if_neg (λaC=>e aC.2),if_neg e]
 refine⟨G.look a t,?_⟩
 subst aY;refine⟨⟨d.gs.ok,d.gs.oV⟩,d.t0,d.now,d.yp,d.off,λb aa ab=>?_,λb E A J a3 h0=>?_,λE J=>?_,⟨d.hZ.wok,d.hZ.tru⟩,λaH=>?_⟩
 .obtain⟨aw,M⟩:=d.jR b aa ab;refine⟨aw,?_⟩
  by_cases e:b=a
  .subst e;have F:p.au.aQ[b]?=c7 aa:=ab;rw[x.eZ] at F;injection F with F
   subst F;refine⟨by rw[aE,Gh.abU];exact aF,λi s=>?_,?_⟩
   .rw[Gh.abU] at s
    by_cases e:i=G.c b
    .subst e;rw[Gh.acH];exact⟨aQ.1,aq.1,by show r.aj6<=_;omega⟩
    .rw[Gh.ae5 (.inr e)];have:=u.nn i (by omega);exact⟨this.1,this.2.1,by omega⟩
   .have aG:=c9 O;have a1:=c9 am;have aV:=c9 K;refine⟨r.aj6,p.au.aa0,X,by show(p.au.cn.set b r.aj6)[b]?=_;rw[eo aG],by show(p.au.cf.set b _)[b]?=_;rw[eo a1],by show(p.au.bp.set b X)[b]?=_;rw[eo aV],.inr ⟨by rw[Gh.abU];omega,?_,?_⟩,λi c g=>?_⟩
    .rw[Gh.abU,hz,Gh.acH]
    .rw[Gh.abU,hz,Gh.acH]
    .have g:p.au.aw[i]?=c7 c:=g;obtain⟨j,k⟩:=ai g;obtain⟨v,U,T,Q,Y⟩:=W.Hg i j _ k g;obtain⟨aO,l,av,aD,S⟩:=ad i _ g;rw[T] at l;injection l with l;subst l
     rw[Gh.abU];rcases Y with⟨I,z⟩ |⟨I,ak⟩
     .subst I;refine⟨0,Q,dk _,ap.1,λ_ f=>?_⟩
      have Z:G.c b+1 -1 - (0:Int).toNat=G.c b:=by simp
      rw[Z,Gh.acH] at f⊢;have m:G.tp c p.au.aa0∈h.ai:=f;rw[N k g] at m;exact(P _).2 (z m)
     .refine⟨U,Q,by omega,ak,λbc f=>?_⟩
      have Z:G.c b+1 -1 -U.toNat=G.c b -1 -v.toNat:=by omega
      rw[Z,Gh.ae5 (.inr (by omega))] at f⊢;exact S (by omega) f
  .have V:(G.look a t).lk b=G.lk b:=by funext i;exact Gh.ae5 (.inl e)
   obtain⟨A,aJ,aI,aR,aN,aK,aP,aU⟩:=M.num;refine⟨by rw[V,Gh.agk e];exact M.lks,λi s=>?_,?_⟩
   .rw[V];rw[Gh.agk e] at s;have:=M.nn i s;exact⟨this.1,this.2.1,by omega⟩
   .rw[V,Gh.agk e];exact⟨A,aJ,aI,by show(p.au.cn.set a r.aj6)[b]?=_;rw[ej (hY e)];exact aR,by show(p.au.cf.set a _)[b]?=_;rw[ej (hY e)];exact aN,by show(p.au.bp.set a X)[b]?=_;rw[ej (hY e)];exact aK,aP,aU⟩
 .have o:(p.cq.set a r)[b]?=c7 E:=J;have aj:(p.au.cn.set a r.aj6)[b]?=c7 A:=a3
  by_cases e:b=a
  .subst e;have lj:=c9 o;rw[dT] at lj;rw[eo lj] at o;injection o with o
   subst o;refine⟨aM,h,G.c b,x.eZ,by rw[Gh.abU];omega,?_,?_,?_,?_⟩
   .rw[Gh.acH]
   .rw[Gh.acH]
   .rw[Gh.acH];show p.au.aa0 -h.cR<=r.aa0;omega
   .rw[Gh.acH];show r.aa0<=p.au.aa0+h.cR;omega
  .rw[ej (hY e)] at o aj;exact(d.abA b E A o aj h0).look
 .obtain⟨b,aX⟩:=d.heard E J;exact⟨b,aX.look⟩
 .obtain⟨af,aZ,a2,f⟩:=d.je aH;exact⟨af,aZ,a2,f.wok,f.tru⟩
def aq5{d:List aS}{a:Nat}{r:aT}(f:∃b:Nat,Rec d G b r)(g:r.agX=(a:Int)):Rec d G a r:=by
 obtain⟨b,c⟩:=f;have:=c.1;have e:b=a:=by omega
 rw[<-e];exact c
def asF(v:dW n np p)(d:L4 n np G L p)(a4:L<=1000){c:Nat}{h ac:aS}{r:aT}{num:Int}{E:List aT}{aj:cZ}{b s:aL}(ay:p.au.cn[c]?=c7 num)(aG:0<=num)(aI:p.cq[c]?=c7 r)(R:p.au.aQ[c]?=c7 ac)(Q:p.au.aQ[r.agX.toNat]?=c7 h)(aH:∃al,E=(p.bZ++[r]).drop al)(m:fv p.ao p.aa2.af p.au.aa0 h ac r E (c:Int) p.bw p.bq b s):
 L4 n np G L {p with bZ:=E,cW:=aj,bw:=b,bq:=s}:=by
 have W:=d.abA c r num aI ay aG;have aO:h=ac:=by
  have e:=W.1;have aM:r.agX.toNat=c:=by omega
  rw[aM,R] at Q;injection Q with Q
  exact Q.symm
 subst aO;have an:∀g,g∈E->∃a:Nat,Rec p.au.aQ G a g:=λg aw=>by
  obtain⟨al,rfl⟩:=aH;rcases e6.1 (h6 aw) with q |q
  .exact d.heard g q
  .rw[dv] at q;rw[q];exact⟨c,W⟩
 obtain⟨ak,F⟩:=d.jR c h R;have aR:=d.t0;have ar:∀{o:dS},DS r h o->∃Lk,o.an<=Lk/\Lk<=min o.To p.au.aa0/\G.tp o.Tag Lk∈h.ai:=λ{o} B=>by
  obtain⟨az,aZ,aU⟩:=B;obtain⟨_,C,i,l,K,am,ae,r6,r7⟩:=W;rw[R] at l;injection l with l;subst l
  have aY:=F.nn i K;have T:=F.lks.bG i K;exact⟨(G.lk c i).t,by omega,by omega,F.lks.seen i _ K (by rw[ae];exact az)⟩
 have ao:∀{u:Int} {t:dC},nc E (c:Int) u h t->∀s s',t.an<=s->s'<=min t.To p.au.aa0->s<=s'->(∀aa,s<=aa->aa<=s'->G.tp u aa∈h.ai)->s' -s<=(h.dY+1)*h.dX:=λ{u t} j s s' a0 aV a1 aD=>by
  obtain⟨run,aj,a2,⟨ai,aB⟩,aq,av,a3,aQ⟩:=j;have a6:=c9 aq;have af:∀a,a<run.length->∃i g,run[a]?=c7 g/\i<G.c c/\(G.lk c i).num=g.aj6/\(G.lk c i).bo=g.aw/\(G.lk c i).t -h.cR<=g.aa0/\g.aa0<=(G.lk c i).t+h.cR:=λa f=>by
   have au:=ai _ (e0 f);obtain⟨_,C,i,l,K,am,ae,r6,r7⟩:=aq5 (an _ au.1) au.2.1;rw[R] at l;injection l with l;subst l
   exact⟨i,_,c6 f,K,am,ae,r6,r7⟩
  let z:Nat->Nat:=λa=>if f:a<run.length then(af a f).choose else 0
  have D:∀a (f:a<run.length),∃g,run[a]?=c7 g/\z a<G.c c/\(G.lk c (z a)).num=g.aj6/\(G.lk c (z a)).bo=g.aw/\(G.lk c (z a)).t -h.cR<=g.aa0/\g.aa0<=(G.lk c (z a)).t+h.cR:=λa f=>by
   have e:z a=(af a f).choose:=dif_pos f;rw[e];exact(af a f).choose_spec
  refine F.lks.agP (X:=u) (by have:=ak.2.2.1;omega) ak.2.2.2.1.1 z (run.length -1) (λa f=>?_) (λa f=>?_) (λa f=>?_) (s:=s) (s':=s') ?_ ?_ aD
  .obtain⟨_,_,q,_⟩:=D a (by omega);exact q
  .obtain⟨O,k,S,N,_⟩:=D a (by omega);obtain⟨l,aN,aE,aC,_⟩:=D (a+1) (by omega);have q:=aB a O l k aN;have aA:=F.nn _ S;have a7:=F.nn _ aE;rw[N,aC,q];rw[N] at aA;exact hI (by omega) (by omega)
  .obtain⟨O,k,S,N,ah,_⟩:=D a (by omega);rw[ah];exact(ai O (fC k)).2.2
  .obtain⟨O,k,S,N,ah,aK,aJ⟩:=D 0 (by omega);rw[aq] at k;injection k with k;subst k
   omega
  .obtain⟨O,k,S,N,ah,aK,aJ⟩:=D (run.length -1) (by omega);rw[av] at k;injection k with k;subst k
   omega
 have ap:fM n np b/\fM n np s/\aan p.ao G p.au.aa0 p.au.aw b/\(s.aA≠[]->p.aa2.Out=true/\∃H,ki p.ao p.aa2.af H/\aan H G p.au.aa0 p.au.aw s):=by
  have U:∀{b s:aL},fv p.ao p.aa2.af p.au.aa0 h h r E (c:Int) p.bw p.bq b s->fM n np b/\fM n np s:=λ{b s} m=>by
   obtain⟨⟨ax,aX⟩,aF,a5⟩:=m.shape v.gk v.hZ v.bne v.je;exact⟨ax,aF⟩
  induction m with
  |nil=>exact⟨v.hZ,v.je,d.hZ,d.je⟩
  |Ls o m B j y=>
   obtain⟨I,P,x,A⟩:=y;obtain⟨Lk,V,Y,ad⟩:=ar B;have:=U (m.Ls o B j);exact⟨this.1,this.2,x.Ls d.gs I V Y (by omega) ad j,A⟩
  |Lt o H m B J w j y=>
   obtain⟨I,P,x,A⟩:=y;obtain⟨Lk,V,Y,ad⟩:=ar B;have:=U (m.Lt o H B J w j);obtain⟨T,aP,Z,ab⟩:=A J;have e:=Z.ad2 w;subst e;exact⟨this.1,this.2,x,λ_=>⟨T,_,w,ab.Ls d.gs P V Y (by omega) ad j⟩⟩
  |abs u t m ag M j y=>
   obtain⟨I,P,x,A⟩:=y;have:=U (m.abs u t ag M j);exact⟨this.1,this.2,x.abs d.gs I v.gk (by omega) (ao M) j,A⟩
  |Lu u t H m ag M J w j y=>
   obtain⟨I,P,x,A⟩:=y;have:=U (m.Lu u t H ag M J w j);obtain⟨T,aP,Z,ab⟩:=A J;have e:=Z.ad2 w;subst e;exact⟨this.1,this.2,x,λ_=>⟨T,_,w,ab.abs d.gs P (by rw[w.pl];exact v.gk) (by omega) (ao M) j⟩⟩
 exact⟨d.gs,d.t0,d.now,d.yp,d.off,λa C f=>⟨(d.jR a C f).1,(d.jR a C f).2.lks,(d.jR a C f).2.nn,(d.jR a C f).2.num⟩,d.abA,an,ap.2.2.1,ap.2.2.2⟩
end
section
variable {n np:Nat}{G:Gh}{L:Nat}{p:aE}{e:bH}
def L4.alter(h:L4 n np G L p){q:aE}(a:q.au=p.au)(c:q.ao=p.ao)(d:q.aa2=p.aa2)(o:q.cq=p.cq)(A:q.bZ=p.bZ)(k:q.bw=p.bw)(y:q.bq=p.bq):L4 n np G L q:=by
 obtain⟨a1,u,l,t,m,w,j,a8,s,x⟩:=h;exact⟨by rw[a];exact a1,by rw[a];exact u,by rw[a,c,d];exact l,by rw[a];exact t,by rw[a];exact m,by rw[a];exact w,by rw[a,o];exact j,by rw[a,A];exact a8,by rw[a,c,k];exact s,by rw[a,c,d,y];exact x⟩
def asv{f:List Int}{i b:Int}(c:0<=i/\i<(f.length:Int))(d:0<=b/\b<(f.length:Int)){j:Int}:j∈gL i b f↔j∈f:=by
 constructor
 .intro h;obtain⟨a,g,rfl⟩:=dt.1 h;have e:=c6 g;rw[acL c d] at e
  split at e
  .exact fC e
  .split at e
   .exact fC e
   .exact fC e
 .intro h;obtain⟨a,g,rfl⟩:=dt.1 h;have ek:=c6 g
  by_cases l:(a:Int)=i
  .have:=acL c d b.toNat;rw[if_pos (by omega),show i.toNat=a by omega,ek] at this;exact fC this
  .by_cases m:(a:Int)=b
   .have:=acL c d i.toNat
    by_cases k:((i.toNat:Nat):Int)=b
    .rw[if_pos k,show i.toNat=a by omega,ek] at this;exact fC this
    .rw[if_neg k,if_pos (by omega),show b.toNat=a by omega,ek] at this;exact fC this
   .have:=acL c d a;rw[if_neg m,if_neg l,ek] at this;exact fC this
def arK{f:List Int}:f.Nodup↔∀(i a:Nat) g,f[i]?=c7 g->f[a]?=c7 g->i=a:=by
 constructor
 .intro b i a g c d;rw[<-agw b c,agw b d]
 .intro b;unfold List.Nodup;rw[h7];intro i a c d j h;have:=b i a _ (c6 c) (by rw[c6 d,h]);omega
def aql{f:List Int}{i k:Int}(m:0<=i/\i<(f.length:Int))(o:0<=k/\k<(f.length:Int))(l:f.Nodup):(gL i k f).Nodup:=by
 rw[arK] at l⊢;intro s b j c a;rw[acL m o] at c a;have d:∀h g:Nat,f[h]?=c7 j->f[g]?=c7 j->h=g:=λh g q r=>l h g j q r
 split at c
 .split at a
  .omega
  .split at a
   .have:=d _ _ c a;omega
   .have:=d _ _ c a;omega
 .split at c
  .split at a
   .have:=d _ _ c a;omega
   .split at a
    .omega
    .have:=d _ _ c a;omega
  .split at a
   .have:=d _ _ c a;omega
   .split at a
    .have:=d _ _ c a;omega
    .exact d _ _ c a
def aqT(h:dW n np p)(c:L4 n np G L p){i a:Int}{t w:bC}{b j:aL}(ai:0<=i/\i<(p.au.aN.length:Int))(ag:0<=a/\a<(p.au.aN.length:Int))(W:p.au.aN[i.toNat]?=c7 t)(aa:p.au.aN[a.toNat]?=c7 w)(af:t.abG=w.abG)
 (y:AY p.ao i a p.au.aa0 p.au.aN.length p.ao.ai.length p.bw b) (T:(p.bq.aA=[]/\j=p.bq)\/∃r,p.bq.aA≠[]/\ki p.ao p.aa2.af r/\AY r i a p.au.aa0 p.au.aN.length p.ao.ai.length p.bq j):
 L4 n np G L {p with au:={p.au with aw:=gL i a p.au.aw,bp:=p.au.bp.map (gL i a)},bw:=b,bq:=j}:=by
 have Q:=c.yp.1;have A:=h.iz;have x:0<=i/\i<(p.au.aw.length:Int):=by omega
 have m:0<=a/\a<(p.au.aw.length:Int):=by omega
 have C:(G.tr i.toNat).pl p.au.aa0=(G.tr a.toNat).pl p.au.aa0:=by rw[(c.now _ t W).1,(c.now _ w aa).1,af]
 rw[A,h.gk] at y;refine⟨c.gs,c.t0,c.now,⟨by show(gL i a p.au.aw).length=n;rw[akY];exact Q,aql x m c.yp.2⟩,λf u O=>c.off f (λR=>u ((asv x m).2 R)) O,λz ae M=>?_,c.abA,c.heard,c.hZ.Np c.gs h.hZ c.t0 C y,λac=>?_⟩
 .obtain⟨ad,o⟩:=c.jR z ae M;refine⟨ad,o.lks,o.nn,?_⟩
  obtain⟨Z,K,row,ab,N,J,U,k⟩:=o.num;refine⟨Z,K,gL i a row,ab,N,by show(p.au.bp.map (gL i a))[z]?=_;rw[ev,J];rfl,U,λq f u=>?_⟩
  have d:(gL i a p.au.aw)[q]?=c7 f:=u;have E:∀g:Nat,g<n->g<row.length:=λg ah=>by
   obtain⟨v,P,_⟩:=k g _ (c6 (show g<p.au.aw.length by omega));exact c9 P
  have S:0<=i/\i<(row.length:Int):=by have:=E i.toNat (by omega);omega
  have V:0<=a/\a<(row.length:Int):=by have:=E a.toNat (by omega);omega
  rw[acL x m] at d;rw[acL S V]
  by_cases F:(q:Int)=a
  .rw[if_pos F] at d⊢;exact k _ f d
  .rw[if_neg F] at d⊢
   by_cases D:(q:Int)=i
   .rw[if_pos D] at d⊢;exact k _ f d
   .rw[if_neg D] at d⊢;exact k _ f d
 .have B:j.aA≠[]:=ac;rcases T with⟨s,l⟩ |⟨r,s,l,H⟩
  .rw[l] at B;exact absurd s B
  .rw[A,h.gk] at H;obtain⟨Y,aj,I,X⟩:=c.je s;have e:=I.ad2 l;subst e;exact⟨Y,_,I,X.Np c.gs h.je c.t0 C H⟩
def ahz{b:bA}{f:Int}(g:b.aa2=p.aa2.aa2.set f.toNat 2)(j:b.af=p.aa2.af){c:bC}(k:aas p.aa2 c.akw)(h:∀r,p.aa2.af[f.toNat]?=c7 r->c.akw≠r):aas b c.akw:=λi z a d=>by
 rw[j] at a;rw[g,ga] at d
 split at d
 .rename_i e;subst e;exact absurd rfl (h _ a)
 .exact k i z a d
def arz(c:L4 n np G L p)(a:p.aa2.Out=false):p.bq.aA=[]:=Classical.byContradiction λb=>by
 have:=(c.je b).1;rw[a] at this;cases this
def asx(d:dW n np p){b:bA}(c:b.af=p.aa2.af):aas b (-1):=λi z a _=>by
 rw[c] at a;have:=(d.jY.mem (fC a)).1;omega
def ara{a:ak}{c i q:Int}(f:cP a)(g:cP (cY a c))(j:i≠c)(h:0<=c):mQ (cY a c) i q=mQ a i q:=by
 unfold mQ
 by_cases h0:0<=i
 rotate_left
 .rw[if_neg h0,if_neg h0]
 rw[if_pos h0,if_pos h0];have d:(cY a c).af[i.toNat]?=a.af[i.toNat]? :=by
  unfold cY;dsimp only
  split
  .rw[ej (by omega)]
  .rfl
 have ew:∀b,wT (cY a c) i b 6 9 12=wT a i b 6 9 12:=λb=>by
  unfold wT;rw[if_pos ⟨g,h0⟩,if_pos ⟨f,h0⟩,d]
  rfl
 rw[d,ew,ew]
def ajN(g:dW n np p)(a:L4 n np G L p){c:Int}(I:0<=c){u:aE}(w:oP {p with au:={p.au with ao:=cY p.au.ao c,aN:=p.au.aN.map (n8 c)}} c u):L4 n np G L u:=by
 obtain⟨b,E,fl,M,x,rfl,_,_,o,H,z,_⟩:=w.ex;have o:cP (cY p.ao c):=o;refine⟨a.gs,a.t0,λl F C=>?_,a.yp,a.off,λk j h=>⟨(a.jR k j h).1,(a.jR k j h).2.lks,(a.jR k j h).2.nn,(a.jR k j h).2.num⟩,a.abA,a.heard,a.hZ.renew a.gs g.hZ a.t0.1 (m':=cY p.ao c) g.gk H,λD=>?_⟩
 .have d:(p.au.aN.map (n8 c))[l]?=c7 F:=C;rw[ev] at d;cases q:p.au.aN[l]? with
  |none=>rw[q] at d;cases d
  |some f=>
   rw[q] at d;injection d with d
   subst d;obtain⟨t,A,J⟩:=a.now l f q;unfold n8
   by_cases e:f.akw=c
   .rw[if_pos e];exact⟨t,λm=>absurd m (show ¬(0:Int)<=-1 by decide),asx g rfl⟩
   .rw[if_neg e];refine⟨t,λm=>?_,J⟩
    show 0<=mQ (cY p.ao c) f.akw f.abG/\_+mQ (cY p.ao c) f.akw f.abG<=_
    rw[ara g.gq o e I];exact A m
 .have s:E.aA≠[]:=D;rcases z with⟨r,i⟩ |⟨r,i,y⟩
  .rw[i] at s;exact absurd r s
  .obtain⟨B,K,N,v⟩:=a.je r;exact⟨B,x,i,v.renew a.gs g.je a.t0.1 (by rw[i.pl];exact g.gk) y⟩
def gC.gh(c:dW n np p)(h:L4 n np G L p)(F:L<=1000)(E:fw p.au){J:aE}(I:gC p e J):∃O,L4 n np O (L+1) J:=by
 cases I with
 |wait _ _ h0 C=>
  by_cases V:e.A=0
  .rw[V,WV E];exact⟨G,L4.more (h.alter rfl rfl rfl rfl rfl rfl rfl)⟩
  .exact⟨_,(asG c h E (by omega) C).more⟩
 |walk d _ _ u B a _ Q T=>exact⟨G,(alj c h u B.1 a Q T).more⟩
 |look k rd ab r _ _ m=>exact arU c h F m
 |JE k rs rd r num I x b s _ _ o U j _ eZ X W _ _ B=>exact⟨G,(asF c h F o U j eZ X W B).more⟩
 |swap x b s d ac _ _ hi M _ a Z aa Y N w=>
  subst Y;exact⟨G,(aqT c h hi M a Z aa N w).more⟩
 |JD=>exact⟨G,L4.more (h.alter rfl rfl rfl rfl rfl rfl rfl)⟩
 |guard k _ j y D K _ _ o=>
  refine⟨G,L4.more ⟨h.gs,h.t0,λq d a=>?_,h.yp,h.off,h.jR,h.abA,h.heard,h.hZ,λA=>absurd (arz h K) A⟩⟩
  obtain⟨l,t,n3⟩:=h.now q d a;exact⟨l,t,ahz y j n3 (o d (fC a))⟩
 |shut k s _ j y _ D K _ _ o w=>
  rw[c.iz,c.gk] at w;refine⟨G,L4.more ⟨h.gs,h.t0,λq d a=>?_,h.yp,h.off,h.jR,h.abA,h.heard,h.hZ,λA=>⟨D,?_⟩⟩⟩
  .obtain⟨l,t,n3⟩:=h.now q d a;exact⟨l,t,ahz y j n3 (o d (fC a))⟩
  .obtain⟨H,C,P⟩:=h.hZ.shut h.gs c.hZ h.t0.1 c.gk w;exact⟨H,by show ki p.ao k.af H;rw[j];exact C,P⟩
 |xX=>exact⟨G,L4.more (h.alter rfl rfl rfl rfl rfl rfl rfl)⟩
 |xZ _ _ _ u _ m=>exact⟨G,(ajN c h u m).more⟩
 |xY _ _ _ _ _ _ _ u _ m=>exact⟨G,(ajN c h u m).more⟩
 |JF k st _ j y D R _=>
  refine⟨G,L4.more ⟨h.gs,h.t0,λq d a=>?_,h.yp,h.off,h.jR,h.abA,h.heard,h.hZ,λA=>absurd rfl A⟩⟩
  obtain⟨l,t,n3⟩:=h.now q d a;exact⟨l,t,λi z _ S=>R z (fC S)⟩
def oA.gh(o:dW n np p)(h:L4 n np G p.bB.length p){d:aE}{c:Int}(m:oA p e d c):∃a,L4 n np a d.bB.length d:=by
 cases m with
 |no=>exact⟨G,h⟩
 |bad al nm _ _ _ _ _ _=>
  refine⟨G,?_⟩
  show L4 n np G (p.bB++[_]).length _
  rw[eH];exact L4.more (h.alter rfl rfl rfl rfl rfl rfl rfl)
 |zI q nm k _ s j=>
  obtain⟨a,l⟩:=k.gh o h (by omega) j;refine⟨a,?_⟩
  show L4 n np a (p.bB++[_]).length _
  rw[eH];exact l.alter rfl rfl rfl rfl rfl rfl rfl
def vD.gh{s:gM}(o:yJ s)(h:vD s p):∃G,L4 s.ai.length s.ao.ai.length G p.bB.length p:=by
 obtain⟨x,b,W,rfl,_,N,_⟩:=h.ex;obtain⟨wh,rfl,X,F⟩:=N.ex;have B:=o.tg;have U:=o.pl;have E:∀k,k<s.ai.length->s.ai[k]?=c7 (s.ai.getD k 0)/\0<=s.ai.getD k 0/\s.ai.getD k 0<(s.ao.ai.length:Int):=λk l=>by
  have e:=c6 l;rw[pu e];exact⟨e,U.2 _ (e0 l)⟩
 refine⟨⟨λk=>⟨λ_=>s.ai.getD k 0,λ_=>0⟩,λc _=>if c∈s.aw then s.ai.getD (s.aw.idxOf c) 0 else -1,λ_ _=>⟨0,0,[]⟩,λ_=>0⟩,⟨λk l=>⟨by show(0:Int)<=SM;decide,λm h0 P=>⟨dk _,h0⟩⟩,λk l m _ _=>(E k l).2⟩,⟨dk _,by show(0:Int)<=_;decide⟩,λk J y=>?_,⟨B.1,B.2.nodup⟩,λc t m=>if_neg t,λk rd eZ=>⟨o.rd.2 rd (fC eZ),?_⟩,λk r a _ T h0=>?_,λr S=>(by cases S),⟨λJ y R w=>?_,⟨⟨s.aw,wh⟩,by simp,rfl,λk R w=>?_⟩⟩,λQ=>absurd rfl Q⟩
 .have d:(s.ai.map λq=>bC.mk q (-1) 0)[k]?=c7 J:=y;rw[ev] at d;cases j:s.ai[k]? with
  |none=>rw[j] at d;cases d
  |some q=>
   rw[j] at d;injection d with d
   subst d;refine⟨by show s.ai.getD k 0=q;exact pu j,λD=>absurd D (show ¬(0:Int)<=-1 by decide),λi z hi _=>?_⟩
   have M:s.gZ[i]?=c7 (-1):=hi;have:=(o.br.2.mem (fC M)).1;omega
 .have A:s.aQ[k]?=c7 rd:=eZ;refine⟨⟨λi hi=>absurd hi (gb _),λi c hi=>absurd hi (gb _),λi hi=>absurd hi (gb _),λc i hi=>absurd hi (gb _)⟩,λi hi=>absurd hi (gb _),-1,-1,ea s.ai.length 0,?_,?_,?_,.inl ⟨rfl,rfl,rfl⟩,λi c t=>⟨0,?_,dk _,(o.rd.2 rd (fC eZ)).2.2.2.1.1,λD=>absurd D (gb _)⟩⟩
  .show(s.aQ.map λ_=>(-1:Int))[k]?=_;rw[ev,A];rfl
  .show(s.aQ.map λ_=>(-1:Int))[k]?=_;rw[ev,A];rfl
  .show(s.aQ.map λ_=>ea s.ai.length (0:Int))[k]?=_;rw[ev,A];rfl
  .have:=c9 t;rw[List.getElem?_replicate,if_pos (by have:i<s.aw.length:=this;omega)]
 .have u:(s.aQ.map λ_=>(-1:Int))[k]?=c7 a:=T;rw[ev] at u;cases j:s.aQ[k]? with
  |none=>rw[j] at u;cases u
  |some q=>
   rw[j] at u;have H:c7 (-1:Int)=c7 a:=u;injection H with H
   omega
 .rw[dv] at y;subst y;obtain⟨i,hi,rfl⟩:=dt.1 w;have M:i<wh.length:=hi;obtain⟨C,I,_⟩:=F i _ _ (c6 hi) (E i (by omega)).1;exact⟨I,by rw[C];exact dk _⟩
 .have l:k<wh.length:=c9 w;obtain⟨C,I,O⟩:=F k _ _ w (E k (by omega)).1;refine⟨⟨by omega,by rw[C];exact dk _,λm P V=>.inl ⟨rfl,rfl⟩,λm _ _=>O⟩,λc t m _ _=>?_⟩
  show(if c∈s.aw then s.ai.getD (s.aw.idxOf c) 0 else -1)=s.ai.getD k 0
  have K:s.aw[k]?=c7 c:=t;rw[if_pos (fC K),agw B.2.nodup K]
end
noncomputable def stp(p:aE)(e:bH):aE×Int:=(w7 LC p e).getD (p,2)
structure Inv (n np:Nat) (rs:List aS) (p:aE):Prop where
 sh:dW n np p
 gh:∃G,L4 n np G p.bB.length p
 rd:p.au.aQ=rs
 kI:p.bR.dg=[]
def gC.agU{p c:aE}{e:bH}(h:gC p e c):c.bR=p.bR:=by
 cases h with
 |xZ _ _ _ _ _ a=>obtain⟨b,s,fl,sm,d,rfl,_⟩:=a.ex;rfl
 |xY _ _ _ _ _ _ _ _ _ a=>obtain⟨b,s,fl,sm,d,rfl,_⟩:=a.ex;rfl
 |_=>rfl
def oA.agU{p a:aE}{e:bH}{c:Int}(h:oA p e a c):a.bR=p.bR:=by
 cases h with
 |no c _=>rfl
 |bad al nm c _ _ _ _ _=>rfl
 |zI q nm d _ _ _=>exact d.agU
section
variable {n np:Nat}{rs:List aS}{p:aE}{e:bH}
def Inv.step(h:Inv n np rs p)(j:k9 rs.length e):w7 LC p e=c7 (stp p e)/\oA p e (stp p e).1 (stp p e).2/\Inv n np rs (stp p e).1:=by
 have k:J6 p e:=by unfold J6;rw[h.rd];exact j
 obtain⟨d,c,a⟩:=Wq h.sh k;have es:stp p e=d:=by unfold stp;rw[c];rfl
 obtain⟨m,l⟩:=h.gh;rw[es];exact⟨c,a,a.mD h.sh,a.gh h.sh l,a.Gm.trans h.rd,by rw[a.agU];exact h.kI⟩
def vD.inv{s:gM}(a:yJ s)(h:vD s p):Inv s.ai.length s.ao.ai.length s.aQ p:=by
 refine⟨h.mD a,h.gh a,?_,?_⟩
 .obtain⟨x,b,c,rfl,_⟩:=h.ex;rfl
 .obtain⟨x,b,c,rfl,_⟩:=h.ex;exact a.es.2.1
end
section
variable {n np:Nat}{rs:List aS}{p:aE}{e:bH}
def L4.aev{t:Gh}{L:Nat}(a:dW n np p)(h:L4 n np t L p){k:Nat}{d:bC}(j:p.au.aN[k]?=c7 d):d.abG∈ld p.bw (k:Int) p.au.aa0:=by
 obtain⟨v,c,ht,m⟩:=h.hZ.now h.gs a.hZ h.t0.1;have u:=c9 j;rw[a.iz] at u;have w:=(a.hZ.mX v c).1.1;have ex:=c6 (show k<v.aH.length by omega);have l:=m k _ ex;rw[(h.now k d j).1] at l;obtain⟨h0,s,o⟩:=Sq.1 l;have:=(a.hZ.lt c ex).2;have:=a.mq;exact RJ.2 ⟨h0,by omega,v,_,c,by omega,by rw[ef];exact ex,s,o⟩
def asb{m:ak}{e:bE}{q:Int}{qE:List Int}(u:lO e)(F:Fit m.ai)(K:qE.length<=1000):Ok (anJ LC m e q qE) λ_=>True:=by
 unfold anJ;rw[Jc u,aa]
 by_cases x:lH m e
 rotate_left
 .rw[decide_eq_false x];exact ae trivial
 rw[decide_eq_true x,ec,cond_false,ahk u F,aa]
 by_cases h:lH m e/\0<=q/\q<=(m.ai.length:Int) -1
 rotate_left
 .rw[decide_eq_false h];exact ae trivial
 rw[decide_eq_true h,ec,cond_false];obtain⟨f,H,j,G⟩:=aol h.1;rw[H,aa];have L:=j.num;have I:=j.safe;have M:=j.sM;refine aD (Q:=λd=>match d with | .inl _=>True | .inr d=>0<=d.1/\d.1<(m.ai.length:Int)) ?_ λd w=>?_
 .refine di qE.length (λb c=>c.2.2.2=(b:Int)/\c.1.length=b+1/\0<=c.2.1/\c.2.1<(m.ai.length:Int)) _ (λb c D t=>?_) (λc t=>?_) _ ⟨rfl,rfl,h.2.1,by dsimp only;omega⟩
  .obtain⟨y,at_,B,E⟩:=c;obtain⟨rfl,r,o,k⟩:=t;dsimp only at r o k⊢;unfold anZ;rw[aC,bn,c6 D,aa];have A:aob LC f.steps qE[b] at_=c7 (gg (λa=>c5 (a.gX=qE[b]/\a.from_=at_)) f.steps):=by
    unfold aob;exact fF (P:=λv=>anM LC v qE[b] at_) (by omega) (λv J=>by unfold anM;exact fm rfl) λc=>rfl
   rw[A,aa]
   by_cases h0:gg (λa=>c5 (a.gX=qE[b]/\a.from_=at_)) f.steps<0
   .rw[aC h0];exact ae trivial
   .rw[aG h0];obtain⟨i,a,C,z,O,_⟩:=HN (p:=λa=>c5 (a.gX=qE[b]/\a.from_=at_)) (l:=f.steps) (by omega);have s:=fC z;have N:=(j.st a s);rw[C,bn,z];simp only[aa];rw[SH j s,aa,contains_eq (by show y.length<=_;omega),aa];refine aD (Q:=λ_=>True) (dy (λ_=>ae trivial) λ_=>ae trivial) λg _=>?_
    refine dy (λ_=>ae trivial) (λ_=>?_)
    rw[pN (by simp;omega),aa,aJ (n:=(b:Int)+1)];refine ae ⟨rfl,by simp[r],?_⟩
    have:=(G a s).ok h.1.1;exact this.2.1
  .obtain⟨y,at_,B,E⟩:=c;obtain⟨rfl,r,o,k⟩:=t;dsimp only at r o k⊢;unfold anZ;rw[aG];exact ae ⟨o,k⟩
 .cases d with
  |inl d=>exact ae trivial
  |inr d=>
   simp only[Sum.elim_inr];rw[jF false w.1 (by have:=w.2;omega),aa];refine dy (λ_=>ae trivial) (λ_=>ae trivial)
def xU.len{m:ak}{e:bE}{p:Int}{r:List Int×List Int×ju}{c d:List cS}{f:cm}(h:xU m e p r c d f):r.1.length<=64/\r.2.1.length<=64:=by
 have a:0<=p/\p<(m.ai.length:Int):=⟨h.there.2.1,by have:=h.there.2.2;omega⟩;have l:=h.p1.len h.fin a;have j:=h.p2.len h.fin a;have k:=h.fin.sM;rw[h.r1,h.r2,e4,e4];omega
def asN{p:aE}{z:Int}{w:bC}(o:p.bS.length<=64):Ok (bO (λd:Bool×Int=>ar5 LC (p,z) w d.1 d.2) (false,0)) λb=>b=true↔∃c,c∈p.bS/\fX c 2 w.abG:=by
 refine di p.bS.length (λi d=>d.2=(i:Int)/\(d.1=true↔∃c,c∈p.bS.take i/\fX c 2 w.abG)) _ (λi d l g=>?_) (λd g=>?_) _ ⟨rfl,by simp⟩
 .obtain⟨b,m⟩:=d;obtain⟨rfl,a⟩:=g;dsimp only at a⊢;have j:=c6 l;unfold ar5;dsimp only;rw[aC,bn,j,aa,aa,aJ,fm (p:=p.bS[i].abv=2) (q:=p.bS[i].eB=w.abG) rfl,iE j];have k:(∃c,c∈p.bS.take i++[p.bS[i]]/\fX c 2 w.abG)↔(∃c,c∈p.bS.take i/\fX c 2 w.abG)\/(p.bS[i].abv=2/\p.bS[i].eB=w.abG):=by
   constructor
   .rintro⟨c,a,f⟩;rcases e6.1 a with a |a
    .exact .inl ⟨c,a,f⟩
    .rw[dv] at a;subst a;exact .inr f
   .rintro(⟨c,a,f⟩ |f)
    .exact⟨c,List.mem_append_left _ a,f⟩
    .exact⟨_,List.mem_append_right _ (dv.2 rfl),f⟩
  cases b with
  |true=>
   rw[cond_true,aa];exact ae ⟨rfl,⟨λ_=>k.2 (.inl (a.1 rfl)),λ_=>rfl⟩⟩
  |false=>
   rw[cond_false,aa];refine ae ⟨rfl,?_⟩
   dsimp only;rw[decide_eq_true_iff,k];exact⟨.inr,λh=>h.resolve_left λh=>by have:=a.2 h;cases this⟩
 .obtain⟨b,m⟩:=d;obtain⟨rfl,a⟩:=g;dsimp only at a⊢;unfold ar5;dsimp only;rw[aG];rw[List.take_length] at a;exact ae a
def aua{y:List Int×List Int×Bool}(m:y.1.length<=1000)(l:y.2.1.length<=1000):Ok (bO (λa:Bool×Int=>ar6 LC y a.1 a.2) (y.2.2,0)) λb=>y.2.2=true->(∀d,d∈y.1->d∉y.2.1)->b=true:=by
 refine di y.1.length (λi a=>a.2=(i:Int)/\(y.2.2=true->(∀d,d∈y.1->d∉y.2.1)->a.1=true)) _ (λi a h f=>?_) (λa f=>?_) _ ⟨rfl,λg _=>g⟩
 .obtain⟨b,j⟩:=a;obtain⟨rfl,c⟩:=f;dsimp only at c⊢;have k:=c6 h;unfold ar6;rw[aC,bn,k,aa,has_eq (by show y.2.1.length<=_;omega),aa,aJ];cases b with
  |true=>
   rw[cond_true,aa];refine ae ⟨rfl,λ_ g=>?_⟩
   dsimp only;rw[Bool.not_eq_true',decide_eq_false_iff_not];exact g _ (e0 h)
  |false=>
   rw[cond_false,aa];exact ae ⟨rfl,c⟩
 .obtain⟨b,j⟩:=a;obtain⟨rfl,c⟩:=f;dsimp only at c⊢;unfold ar6;rw[aG];exact ae c
def auO{q:aE}(i:dW n np q){z:Int}{h:Nat}(ag:h<n){w:bC}(Q:q.au.aN[h]?=c7 w)(j:(∃l,l∈q.bS/\fX l 2 w.abG)\/od q.ao q.bR w.abG=true):ar0 LC (q,z) (h:Int)=c7 (.inl ((h:Int)+1)):=by
 have ab:=i.n3;have Y:=i.iz;have d:=i.kI.1;have G:=i.gq;have c:Fit q.ao.ai:=by show q.ao.ai.length<=_;have:=G.1;omega
 have C:q.ao.af.length<=1000:=by have:=G.2.1;omega
 unfold ar0;dsimp only;rw[aC,bn,Q,aa];obtain⟨X,en,V⟩:=asN (p:=q) (z:=z) (w:=w) i.iI.1;refine(dL en).trans ?_
 obtain⟨y,F,I,N⟩:=S9 (m:=q.ao) (e:=q.bR) (p:=w.abG) d c;obtain⟨E,H,ac⟩:=ann (m:=q.ao) (p:=w.abG) C;rw[adw,F,aa,aa];dsimp only;have ad:y.1.length<=64/\y.2.1.length<=64:=by
  cases D:y.2.2.2 with
  |false=>rw[(I D).1,(I D).2];simp
  |true=>obtain⟨B,x,f,A⟩:=N D;exact A.len
 obtain⟨R,k,_⟩:=asb (m:=q.ao) (e:=q.bR) (q:=w.abG) (qE:=y.1) d c (by omega);obtain⟨T,o,_⟩:=asb (m:=q.ao) (e:=q.bR) (q:=w.abG) (qE:=y.2.1) d c (by omega);obtain⟨W,M,A⟩:=aua (y:=(y.1,y.2.1,y.2.2.2)) (by dsimp only;omega) (by dsimp only;omega);rw[k,aa,o,aa,H,aa];refine(dL M).trans ?_
 have fin:∀(m:Option Bool),m=c7 false->(m.bind λK=>bif K then c7 (fe (ee ())) else c7 (ee (c3 c4 ((h:Int)+1))):Option (Int⊕(Unit⊕Unit)))=c7 (.inl ((h:Int)+1)):=λm c=>by
  rw[c,aa,cond_false,aJ]
 refine fin _ ?_
 cases X with
 |true=>rfl
 |false=>
  rw[hU,cond_true];have L:od q.ao q.bR w.abG=true:=by
   rcases j with j |j
   .have:=V.2 j;cases this
   .exact j
  obtain⟨b,u,g⟩:=L1 (p:=w.abG) d c C;rw[U2 d c C,L] at u;injection u with u
  obtain⟨r,B,x,f,Z,t,a,s,af,ai,ae⟩:=g u.symm;rw[F] at t;injection t with t
  subst t;rw[H] at s;injection s with s
  subst s;have ah:=a.time;have J:R=(gz B,0):=by
   have:=ase d c a.there a.find a.fin a.so a.p1;rw[<-a.r1] at this;rw[this] at k;injection k with k
   exact k.symm
  have O:T=(gz x,0):=by
   have:=ase d c a.there a.find a.fin a.so a.p2;rw[<-a.r2] at this;rw[this] at o;injection o with o
   exact o.symm
  have S:W=true:=A rfl λl v g=>by
   have v:l∈r.1:=v;have g:l∈r.2.1:=g;rw[a.r2] at g;obtain⟨U,P,rfl⟩:=hD.1 g;rw[a.r1] at v;exact a.dis U P v
  subst J;subst O;subst S;rw[ec,cond_false,aG (by simp),aG (by simp),aJ (n:=gz B+E),aJ (n:=gz x+E),aG,decide_eq_false (by omega)]
def asn(x:List Int):ar7 LC x=c7 true:=by
 unfold ar7;rw[ajy,aa,WQ]
 by_cases J:(x.length:Int)<=400
 rotate_left
 .rw[decide_eq_false J];rfl
 rw[decide_eq_true J,ec,cond_false];have S:x.length<=400:=by omega
 refine Ok.val ?_
 refine c8 (a:=x) rfl ?_
 refine aD (alo S) λo v=>?_
 refine aD (Vr v.2) λaj X=>?_
 obtain⟨p,ok⟩:=aj;obtain⟨F,T⟩:=X;dsimp only at F T⊢;rw[F,ec,cond_false];have m:=T.inv v.2;refine aD (aqk S (d:=⟨o.1,o.2.1⟩) v.1 m.sh 30 (by decide) (by decide)) λl V=>?_
 have L:∀e,e∈l.2.2->k9 o.2.2.aQ.length e:=by rw[<-m.rd];exact V.2.2
 have ar:=V.2.1;generalize o.2.2.ai.length=n at m;generalize o.2.2.ao.ai.length=np at m;generalize o.2.2.aQ=rs at m L;refine aD (Q:=λk=>k= .inr ()) ?_ λk B=>by rw[B];exact ae rfl
 refine di l.2.2.length (λi w=>∃g,w=u16 g (i:Int)/\Inv n np rs g) _ (λi w M z=>?_) (λw z=>?_) _ ⟨p,rfl,m⟩
 .obtain⟨g,rfl,s⟩:=z;show Ok (arY LC l g (i:Int)) _
  unfold arY;have G:=c6 M;have K:=e0 M;generalize l.2.2[i]=e at G K;rw[aC,bn,G];simp only[aa];obtain⟨I,A,t⟩:=s.step (L e K);rw[I];simp only[aa];generalize stp g e=c at I A t;have W:(bif c5 (e.abv≠12) then c7 true else bif c5 (c.2≠0) then c7 true else c7 (c5 (0<(c.1.bz.an.length:Int))))=c7 (c5 (e.abv≠12\/c.2≠0\/0<(c.1.bz.an.length:Int))):=ew (ew rfl);have fin:∀(D:Option (qc⊕Unit)),D=c7 (.inl (lR c.1))->Ok (D.bind λal=>hB (λam=>let Z:=tT am;c7 (ee (u16 Z (c3 c4 ((i:Int)+1))))) (λaq=>c7 (fe (ee ()))) al) λk:pJ⊕(Unit⊕Unit)=>match k with
   | .inl ac=>∃g,ac=u16 g ((i+1:Nat):Int)/\Inv n np rs g
   | .inr b=>b= .inr ():=λD an=>by
   rw[an,aa];show Ok (c7 (ee (u16 c.1 (c3 c4 ((i:Int)+1))))) _
   rw[aJ];exact ae ⟨c.1,rfl,t⟩
  refine WI (fin _ ?_) λk B=>by cases k <;> exact B
  refine(dL W).trans ?_
  by_cases h:e.abv≠12\/c.2≠0\/0<(c.1.bz.an.length:Int)
  .rw[aC h]
  .rw[aG h];have u:e.abv=12:=h8.1 λj=>h (.inl j)
   have E:c.2=0:=h8.1 λj=>h (.inr (.inl j))
   have O:c.1.bz.an=[]:=ei.1 (by have:=λj=>h (.inr (.inr j));omega);obtain⟨aw,au⟩:=c;dsimp only at A t E O⊢;cases A with
   |no ah h=>subst E;rcases h with h |h <;> cases h
   |bad ap U ah v=>exact absurd E v
   |zI q U P _ _ av=>
    have y:=P.aoJ s.sh u;have H:=P.mD s.sh;have ai:q.bz.an=[]:=O;have ad:=y.pq.1 ai;have af:({g.bR with dg:=filled g.bz (g.au.aa0+600)}:bE)=q.bR:=by
     rw[y.kI];have ag:filled g.bz (g.au.aa0+600)=[]:=by
      unfold filled;rw[ad]
      rfl
     have C:=s.kI;rw[ag];cases j:g.bR
     rw[j] at C;dsimp only at C⊢;rw[C]
    obtain⟨ao,ak⟩:=t.gh;have R:=t.sh;have e:=nV (f:=λw=>ar0 LC (({q with bB:=g.bB++[⟨e,g.au.aa0,0,U⟩]}:aE),(0:Int)) w) n (λr=>(r:Int)) (.inr ()) (λr u=>by
     have ab:r<q.au.aN.length:=by rw[H.iz];exact u
     have N:=c6 ab;refine auO R u N ?_
     have Y:=ak.aev R N;have:=y.qE r u q.au.aN[r].abG (by rw[<-y.time];exact Y);rw[af] at this;exact this) (by
     unfold ar0;dsimp only;rw[aG (by have:=H.iz;omega)])
    refine(dL e).trans ?_
    rfl
 .obtain⟨g,rfl,s⟩:=z;show Ok (arY LC l g (l.2.2.length:Int)) _
  unfold arY;rw[aG];exact ae rfl
end
end Go.X.T
namespace Go.X.T
open Go Go.Aml Go.Bml Go.X Go.Proofs Go.ChangeShapes Go.WideShapes Go.RowKit Go.ChangeAt
def atC:G8 hP (ar8 LC) [22]:=λj h0=>by
 obtain⟨g,l,f,rfl,d⟩:=ajJ h0;obtain rfl:=adH d;obtain⟨b,rfl,i,h⟩:=aeB (e:=3) (k:=.i64) (by kernel_rfl) (by kernel_rfl) (by kernel_rfl) (by kernel_rfl) f;refine⟨b,true,asn b,rfl,λa=>?_,rfl⟩
 have c:dP hP 22=c7 false:=by kernel_rfl
 rw[c]
 match a with
 |0=>rfl
 |a+1=>rfl
end Go.X.T
namespace Go.Proofs.YtfljhldgncdifaaGreat
open Go Go.Aml Go.Bml Go.X Go.X.T Go.ChangeShapes Go.WideShapes Go.ChangeAt Go.RowKit
def Wd:joinedFacts Tryz.pinned.checked.prog 6 Tryz.f6 Rows.topWaysSpec Rows.topWaysRow=true:=by
 unfold joinedFacts;rw[ja,jb,jc,jd]
 kernel_rfl
def lifted(os:Os)(started:os.Started)(H:Type)(enc:TypeId×Value->H):
 ReturnsInHanded {} hK os 6 .any (Rows.topWaysSpec.pre6 enc hP Tryz.f6 Rows.topWaysRow.domain false) (Rows.topWaysSpec.post enc hP Tryz.f6 false true false false):=
 ahF (C:=hK) (c:=ar8 LC) (tb:=4) (by kernel_rfl) started (by kernel_rfl) Tryz.func6
  (ChangeSpec.witness6 (enc:=enc) (C:=hK) false ⟨#[],#[.slice hS 0 0],[]⟩ 8 (by kernel_rfl) (by kernel_rfl) (by kernel_rfl) (by kernel_rfl))
  (by kernel_rfl) (by kernel_rfl) (by kernel_rfl) rfl rfl Tryz.underlying4 (λds hl=>by
   match ds,hl with
   |[_],_=>rfl) rfl (asI LC) atC
theorem topWays_holds:Rows.TopWaysSaid:=
 OpenClaim.holds_of_wide 6 Tryz.f6 rfl rfl rfl rfl rfl rfl rfl ⟨rfl,rfl,rfl,rfl,rfl⟩ rfl rfl rfl rfl rfl (by kernel_rfl) Tryz.func6 Wd
  (of_decide_eq_true (by kernel_rfl)) (by unfold Func.isWrapper;first |(rw[if_pos (by decide+kernel)];kernel_rfl) |(rw[if_neg (by decide+kernel)];exact⟨rfl,rfl⟩))
  (λos started H enc _=>lifted os started H enc)
#print axioms topWays_holds
end Go.Proofs.YtfljhldgncdifaaGreat
