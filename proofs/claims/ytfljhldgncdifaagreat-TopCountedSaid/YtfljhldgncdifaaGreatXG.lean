/- TopCounted: for every input the law returns true, and each argument reads as it did. Without conditions. -/
import Derived.Test.YtfljhldgncdifaaGreatXF
import Derived.Test.YtfljhldgncdifaaGreatXJ5a
import Derived.Test.YtfljhldgncdifaaGreatXJ5b
import Derived.Test.YtfljhldgncdifaaGreatXJ5c
import Derived.Test.YtfljhldgncdifaaGreatXJ5d
import Derived.Test.YtfljhldgncdifaaGreatXA
import Derived.Test.YtfljhldgncdifaaGreatXB
import Derived.Test.YtfljhldgncdifaaGreatXC
import Derived.Test.YtfljhldgncdifaaGreatXD
import Derived.Test.YtfljhldgncdifaaGreatXE
import Derived.Test.YtfljhldgncdifaaGreatRows
import Derived.WalkKit
import Derived.ProofKit
import Derived.OpenShut
import Derived.Below
import Derived.JoinedOf
set_option linter.defProp false
set_option linter.unusedSimpArgs false
set_option maxRecDepth 100000
set_option linter.unusedVariables false
open Decidable renaming decide → c3
open List renaming getElem?_eq_getElem → c4, getD_eq_getElem?_getD → c6, mem_iff_getElem → dd, mem_singleton → dk, length_set → dt, getElem_mem → dv, length_map → dT, getElem?_append_left → e0, mem_append → e4, replicate → e6, getElem?_set_ne → ea, getElem?_set_self → ec, getElem?_map → ee, getElem?_eq_some_iff → ef, mem_or_eq_of_mem_set → ej, length_append → ev, length_replicate → ey, getElem?_set → ez, length_eq_zero_iff → eH, getElem?_append_right → ft, getElem?_eq_none → gv, mem_of_mem_drop → gx, length_pos_iff → gy, pairwise_iff_getElem → h5, eq_of_mem_replicate → h6, any_eq_true → h7, length_singleton → h8, any_eq_false → hq, length_drop → hD, length → hL, mem_map → hP
open Option renaming some → c5, none → hK
open Int renaming le_refl → c7, toNat_natCast → e5, tmod_eq_of_lt → hz, le_trans → hQ
open Sum renaming inl → ei, inr → eE, elim → hM
open Bool renaming not_true → eo
open Nat renaming not_lt_zero → fe, le_trans → ga, le_refl → gb, add_sub_cancel → h9
open Go.Proofs.Tryz renaming checked → hB, prog → hI
open Ne renaming symm → hS
open List.Pairwise renaming nil → hU
namespace Go.X.T
open Go Go.Aml Go.Top
def dR(p:aE)(b a:aL):aE:={p with bw:=b,bq:=a}
def DS(r:aT)(b:aS)(a:dS):Prop:=a.Tag∈r.aw/\a.an=max 0 (r.aa0 -b.cR)/\a.To=r.aa0+b.cR
inductive fv (m:ak) (kr:List Int) (clock:Int) (rs rd:aS) (r:aT) (hd:List aT) (k:Int) (b0 s0:aL):aL->aL->Prop
 |nil:fv m kr clock rs rd r hd k b0 s0 b0 s0
 |Ls {b s b'} (sg:dS):fv m kr clock rs rd r hd k b0 s0 b s->DS r rs sg->oG (λx x'=>x'=x\/lG m x rd.ai sg.an (min sg.To clock) x') (λx=>x.aa0<=sg.an/\∀p,p∈rd.ai->min sg.To clock<fn x.an p) m sg.Tag b b'->fv m kr clock rs rd r hd k b0 s0 b' s
 |Lt {b s s'} (sg:dS) (bm:ak):fv m kr clock rs rd r hd k b0 s0 b s->DS r rs sg->s.aA≠[]->ki m kr bm->oG (λx x'=>x'=x\/lG bm x rd.ai sg.an (min sg.To clock) x') (λx=>x.aa0<=sg.an/\∀p,p∈rd.ai->min sg.To clock<fn x.an p) bm sg.Tag s s'->fv m kr clock rs rd r hd k b0 s0 b s'
 |abs {b s b'} (tag:Int) (a:dC):fv m kr clock rs rd r hd k b0 s0 b s->tag∉r.aw->nc hd k tag rd a->oG (λx x'=>x'=x\/∃g1,og m x rd.ai a.an (min a.To clock) ((rd.dY+1)*rd.dX) x' g1) (λ_=>False) m tag b b'->fv m kr clock rs rd r hd k b0 s0 b' s
 |Lu {b s s'} (tag:Int) (a:dC) (bm:ak):fv m kr clock rs rd r hd k b0 s0 b s->tag∉r.aw->nc hd k tag rd a->s.aA≠[]->ki m kr bm->oG (λx x'=>x'=x\/∃g1,og bm x rd.ai a.an (min a.To clock) ((rd.dY+1)*rd.dX) x' g1) (λ_=>False) bm tag s s'->fv m kr clock rs rd r hd k b0 s0 b s'
def fv.shape{m:ak}{kr:List Int}{clock:Int}{rs rd:aS}{r:aT}{A:List aT}{k:Int}{t l b s:aL}{n np:Nat}(h:fv m kr clock rs rd r A k t l b s)(j:m.ai.length=np)(w:fM n np t)(B:t.aA≠[])(x:fM n np l):(fM n np b/\b.aA≠[])/\fM n np s/\(s.aA=[]↔l.aA=[]):=by
 induction h with
 |nil=>exact⟨⟨w,B⟩,x,Iff.rfl⟩
 |Ls C _ _ d c=>exact⟨⟨c.1.1.aX (Ro j) d,d.ne⟩,c.2⟩
 |Lt C y _ _ u o d c=>exact⟨c.1,c.2.1.aX (Ro (by rw[o.pl];exact j)) d,⟨λh=>absurd h d.ne,λh=>absurd (c.2.2.2 h) u⟩⟩
 |abs tag a _ _ _ d c=>exact⟨⟨c.1.1.aX (T3 j) d,d.ne⟩,c.2⟩
 |Lu tag a y _ _ _ u o d c=>exact⟨c.1,c.2.1.aX (T3 (by rw[o.pl];exact j)) d,⟨λh=>absurd h d.ne,λh=>absurd (c.2.2.2 h) u⟩⟩
def gj(d c:List cy):Prop:=VA c/\∀b,b∈d->∃a,a∈c/\fX a b.abv b.eB
def gj.refl{a:List cy}(h:VA a):gj a a:=⟨h,λb c=>⟨b,c,rfl,rfl⟩⟩
def gj.trans{j d l:List cy}(h:gj j d)(k:gj d l):gj j l:=⟨k.1,λb u=>by
 obtain⟨a,t,o,m⟩:=h.2 b u;obtain⟨c,x,s,w⟩:=k.2 a t;exact⟨c,x,s.trans o,w.trans m⟩⟩
def QP{b:List cy}(a:VA b)(g f p i:Int):Ok (rk LC b g f p i) λq=>gj b q.1/\(q.2=0->∃h,h∈q.1/\fX h g f)/\(q.2≠0->q.1=b):=WI (apS b g f p i) λq l=>by
 rcases l with⟨d,c⟩ |⟨d,c,j,k⟩
 .exact⟨by rw[c];exact gj.refl a,λa=>absurd a d,λ_=>c⟩
 .exact⟨⟨c,k⟩,λ_=>j,λa=>absurd d a⟩
def aas(a:bA)(r:Int):Prop:=∀(i:Nat) (n:Int),a.af[i]?=c5 r->a.aa2[i]?=c5 n->n=0
structure oP (p:aE) (a:Int) (p':aE):Prop where
 ex:∃b s fl sm bm,p'={p with ao:=cY p.ao a,cI:=fl,bw:=b,bq:=s,bz:=sm}/\fl.length=p.cI.length/\
  kW LC (cY p.ao a) p.bw p.au.aa0=c5 (b,0)/\cP (cY p.ao a)/\gG (λx x'=>mP (cY p.ao a) x p.au.aa0 x') p.bw.aA b.aA/\
  ((p.bq.aA=[]/\s=p.bq)\/(p.bq.aA≠[]/\ki (cY p.ao a) p.aa2.af bm/\gG (λx x'=>mP bm x p.au.aa0 x') p.bq.aA s.aA))/\
  ((p.bz.an=[]/\sm=p.bz)\/(p.bz.an≠[]/\sm.an.length=p.ao.ai.length))
inductive gC (p:aE) (e:bH):aE->Prop
 |wait:e.abv=1->fw p.au->0<=e.A->p.au.aa0+e.A<=2147483648->gC p e {p with au:=x7 p.au e.A}
 |walk (w:bC):e.abv=2->fw p.au->0<=e.A->(0<=e.C/\e.C<=3600)->p.au.aN[e.A.toNat]?=c5 w->w.akw<0->0<=mQ p.au.ao e.B w.abG->aas p.aa2 e.B->gC p e {p with au:={p.au with aN:=p.au.aN.set e.A.toNat ⟨w.abG,e.B,mQ p.au.ao e.B w.abG+e.C⟩}}
 |look (k:Nat) (rd:aS) (x':aB) (r:aT):e.abv=3->e.A=(k:Int)->cf p.au k e.C rd x' r->gC p e {p with au:=x',cq:=p.cq.set k r}
 |JE (k:Nat) (rs rd:aS) (r:aT) (num:Int) (hd:List aT) (x:cZ) (b s:aL):e.abv=4->e.A=(k:Int)->p.au.cn[k]?=c5 num->0<=num->p.cq[k]?=c5 r->kb r->p.au.aQ[k]?=c5 rd->p.au.aQ[r.agX.toNat]?=c5 rs->(∃d,hd=(p.bZ++[r]).drop d)->hd.length<=60->(Sm x.dl/\Sm x.dr)->fv p.ao p.aa2.af p.au.aa0 rs rd r hd (k:Int) p.bw p.bq b s->gC p e {p with bZ:=hd,cW:=x,bw:=b,bq:=s}
 |swap (x:aB) (b s:aL) (w w':bC):e.abv=5->fw p.au->(0<=e.A/\e.A<(p.au.aN.length:Int))->(0<=e.B/\e.B<(p.au.aN.length:Int))->e.A≠e.B->p.au.aN[e.A.toNat]?=c5 w->p.au.aN[e.B.toNat]?=c5 w'->w.abG=w'.abG->x={p.au with aw:=gL e.A e.B p.au.aw,bp:=p.au.bp.map (gL e.A e.B)}->AY p.ao e.A e.B p.au.aa0 p.au.aN.length p.ao.ai.length p.bw b->((p.bq.aA=[]/\s=p.bq)\/∃bm,p.bq.aA≠[]/\ki p.ao p.aa2.af bm/\AY bm e.A e.B p.au.aa0 p.au.aN.length p.ao.ai.length p.bq s)->gC p e {p with au:=x,bw:=b,bq:=s}
 |JD (sm:bQ) (al:List cy):e.abv=6->sm.an.length=p.ao.ai.length->gj p.bS al->(∃a,a∈al/\fX a 1 e.A)->gC p e {p with bz:=sm,bS:=al}
 |guard (k:bA):e.abv=7->k.af=p.aa2.af->k.aa2=p.aa2.aa2.set e.A.toNat 2->k.Out=false->p.aa2.Out=false->ff k->0<=e.A->(∀w,w∈p.au.aN->∀r,p.aa2.af[e.A.toNat]?=c5 r->w.akw≠r)->gC p e {p with aa2:=k}
 |shut (k:bA) (s:aL):e.abv=7->k.af=p.aa2.af->k.aa2=p.aa2.aa2.set e.A.toNat 2->(∀n,n∈k.aa2->n=2)->k.Out=true->p.aa2.Out=false->ff k->0<=e.A->(∀w,w∈p.au.aN->∀r,p.aa2.af[e.A.toNat]?=c5 r->w.akw≠r)->Ff p.ao p.bw p.aa2.af p.au.aa0 p.au.aN.length p.ao.ai.length s->gC p e {p with aa2:=k,bq:=s}
 |xX (st:b7):(e.abv=8\/e.abv=9\/e.abv=10)->mW st->rz p.bM p.aa2 p.bq->gC p e {p with cL:=st}
 |xZ (p':aE):e.abv=11->fw p.au->0<=e.A->(∃r,p.au.ao.af[e.A.toNat]?=c5 r/\r.eN=false)->oP {p with au:={p.au with ao:=cY p.au.ao e.A,aN:=p.au.aN.map (n8 e.A)}} e.A p'->gC p e p'
 |xY (p':aE) (al:List Int) (q:ak×List Int×Int):e.abv=12->(∀x,x∈al->∃a,a∈p.bS/\fX a 2 x)->Pp p.ao {p.bR with dg:=filled p.bz (p.au.aa0+600)} p.bw e.A al p.au.aa0 600 q->fw p.au->0<=e.A->(∃r,p.au.ao.af[e.A.toNat]?=c5 r/\r.eN=false)->oP {p with au:={p.au with ao:=cY p.au.ao e.A,aN:=p.au.aN.map (n8 e.A)}} e.A p'->gC p e p'
 |JF (k:bA) (st:b7):e.abv=13->k.af=p.aa2.af->ff k->k.Out=false->(∀n,n∈k.aa2->n=0)->(st=p.cL/\p.cL.State=0\/st=⟨0,0,0,0⟩)->gC p e {p with aa2:=k,cL:=st,bq:=⟨[]⟩}
structure gi (p:aE) (e:bH) (g:aR) (c:Int):Prop where
 ok:c=0->gC p e g.aI
 iI:c≠0->gj p.bS g.aI.bS
 nm:g.named.length<=768
def gi.same{p:aE}{e:bH}{c:Int}{n np:Nat}(h:dW n np p)(a:c≠0):gi p e ⟨p,[]⟩ c:=⟨λh=>absurd h a,λ_=>gj.refl h.iI,by simp⟩
def gi.bad{p a:aE}{e:bH}{c:Int}{n np:Nat}(h:dW n np p)(d:c≠0)(j:a.bS=p.bS):gi p e ⟨a,[]⟩ c:=⟨λh=>absurd h d,λ_=>by show gj p.bS a.bS;rw[j];exact gj.refl h.iI,by simp⟩
def gi.lP{p a:aE}{e:bH}{c:Int}(d:c=0)(j:gC p e a):gi p e ⟨a,[]⟩ c:=⟨λ_=>j,λh=>absurd d h,by simp⟩
section
variable {n np:Nat}{p:aE}{e:bH}
def Wo(c:dW n np p)(l:e.abv=1):Ok (xR LC ⟨p,[]⟩ e) λk=>∃g b,k=cT g b/\gi p e g b:=by
 unfold xR;refine aD (RE e.A c.kN.fit) λq j=>ae ⟨_,_,rfl,?_⟩
 rcases j with⟨a,_⟩ |⟨a,h,d,f,i⟩
 .exact .bad c a rfl
 .rw[i];exact .lP a (.wait l h d f)
def aku(a:dW n np p)(v:e.abv=2):Ok (yV LC ⟨p,[]⟩ e) λA=>∃g f,A=cT g f/\gi p e g f:=by
 unfold yV;have B:=a.key.1.1;have b:=a.key.2.1;refine aD (O5 (k:=p.aa2) (by omega) (by omega)) λl b=>?_
 rw[contains_eq (by show l.length<=_;have:=b.1;omega),aa];refine aV (λ_=>ae ⟨_,_,rfl,.same a (by decide)⟩) (λh=>?_)
 refine aD (ahi e.A e.B e.C a.kN.fit) λq s=>ae ⟨_,_,rfl,?_⟩
 rcases s with⟨c,_⟩ |⟨c,y,u,w,j,z,x,m,r⟩
 .exact .bad a c rfl
 .rw[r];refine .lP c (.walk j v y u w z x m λi n t o=>?_)
  by_cases d:n=0
  .exact d
  .exact absurd ((b.2 e.B).2 ⟨i,n,t,o,d⟩) h
def anv(a:dW n np p)(m:e.abv=3)(h0:0<=e.A)(i:e.A<max 1 (p.au.aQ.length:Int)):Ok (yT LC ⟨p,[]⟩ e) λl=>∃g f,l=cT g f/\gi p e g f:=by
 unfold yT;refine aD (look_ok (x:=p.au) e.A e.B e.C a.kN.fit (by have:=a.kj;have:=a.jR;omega) h0 i a.kj) λq k=>?_
 rcases k with⟨b,d⟩ |⟨b,c,j,d,h⟩
 .rw[aG b];exact ae ⟨_,_,rfl,.same a b⟩
 .rw[aC b];have r:=(ef.1 h.eZ).1;have o:=a.kn;rw[d,bn];show Ok ((p.cq[c]?).bind λ_=>(p.cq[((c:Nat):Int).toNat]?).bind _) _
  rw[e5,c4 (show c<p.cq.length by omega),aa,aa];exact ae ⟨_,_,rfl,.lP b (.look c j q.1 q.2.1 m d h)⟩
def Zi(c:dW n np p)(m:e.abv=8):Ok (vm LC ⟨p,[]⟩ e) λl=>∃g f,l=cT g f/\gi p e g f:=by
 unfold vm;refine c8 (a:=p.au.aa0) rfl ?_
 refine aD (ao0 (x:=p.bM) (s:=p.cL) (k:=p.aa2) (b:=p.bq) e.A p.au.aa0 (ga c.qx (by decide)) (ga c.key.sm.1 (by decide)) c.lC.se) λq j=>ae ⟨_,_,rfl,?_⟩
 rcases j with⟨d,_⟩ |⟨d,i,o,h⟩
 .exact .bad c d rfl
 .exact .lP d (.xX q.1 (.inl m) i h)
def amE(c:dW n np p)(m:e.abv=9):Ok (wR LC ⟨p,[]⟩ e) λl=>∃g f,l=cT g f/\gi p e g f:=by
 unfold wR;refine c8 (a:=p.au.aa0) rfl ?_
 refine aD (ajE (x:=p.bM) (s:=p.cL) (k:=p.aa2) (b:=p.bq) e.A p.au.aa0 (ga c.qx (by decide)) (ga c.key.sm.1 (by decide)) c.lC.se) λq j=>ae ⟨_,_,rfl,?_⟩
 rcases j with⟨d,_⟩ |⟨d,i,o,h⟩
 .exact .bad c d rfl
 .exact .lP d (.xX q.1 (.inr (.inl m)) i h)
def aeC(c:dW n np p)(m:e.abv=10):Ok (yu LC ⟨p,[]⟩ e) λl=>∃g f,l=cT g f/\gi p e g f:=by
 unfold yu;refine c8 (a:=p.au.aa0) rfl ?_
 refine aD (X1 (x:=p.bM) (s:=p.cL) (k:=p.aa2) (b:=p.bq) p.au.aa0 (c3 (e.B≠0)) (ga c.qx (by decide)) (ga c.key.sm.1 (by decide)) c.lC.se) λq j=>ae ⟨_,_,rfl,?_⟩
 rcases j with⟨d,_⟩ |⟨d,i,o,h⟩
 .exact .bad c d rfl
 .exact .lP d (.xX q.1 (.inr (.inr m)) i h)
end
section
variable {n np:Nat}{p:aE}{e:bH}
def CF{g:aR}(b:cP g.aI.ao)(c:cj 0 ((g.aI.ao.af.length:Int) -1) g.aI.aa2.af)(f:g.aI.aa2.af.length<=1000):Ok (mT LC g) λq=>ki g.aI.ao g.aI.aa2.af ⟨q.1,q.2⟩:=by
 unfold mT;refine aD (acx g.aI.ao g.aI.aa2.af (by show _<=4611686018427387904;omega) (by have:=b.2.1;show _<=4611686018427387904;omega)) λq d=>ae ?_
 rcases d with⟨_,a⟩ |⟨_,a,_⟩
 .exact a
 .exact absurd c (a b)
def apk{a b:List Int}(o:a.length=b.length)(q:b.length<=1000000)(j:bQ×Int)(h:j.1.an=b):Ok (bO (λc:List Int×Int=>uq LC j c.1 c.2) (a,0)) λm=>m.length=a.length:=by
 refine di b.length (λi c=>c.2=(i:Int)/\c.1.length=a.length) _ (λi c k f=>?_) (λc f=>?_) _ ⟨rfl,rfl⟩
 .obtain⟨g,l⟩:=c;obtain⟨rfl,d⟩:=f;dsimp only at d⊢;unfold uq;rw[h,aC,bn,c4 k,aa,bn,e5,c4 (show i<g.length by omega)];simp only[aa];rw[aJ];exact ae ⟨rfl,by rw[dt];exact d⟩
 .obtain⟨g,l⟩:=c;obtain⟨rfl,d⟩:=f;dsimp only at d⊢;unfold uq;rw[h,aG];exact ae d
def aiX(d:dW n np p)(D:e.abv=6):Ok (xy LC ⟨p,[]⟩ e) λi=>∃g l,i=cT g l/\gi p e g l:=by
 have E:=d.gq;have G:=E.1;unfold xy;dsimp only;rw[aJ,cF,aa,de];refine aV (λ_=>?_) (λ_=>ae ⟨_,_,rfl,.same d (by decide)⟩)
 refine c8 (a:=p.au.aa0) rfl ?_
 refine aD (amZ p.ao p.cI [e.A] p.au.aa0 (by show(1:Nat)<=_;decide) (by show _<=4611686018427387904;omega)) λq k=>?_
 by_cases r:q.2.2=0
 rotate_left
 .rw[aC r];exact ae ⟨_,_,rfl,.same d r⟩
 rw[aG (by rw[r];simp)];have z:q.1.length=p.ao.ai.length:=by
  rcases k with k |k
  .exact k.2.1.1
  .exact absurd r k.1
 have w:∀m:List Int,m.length=p.ao.ai.length->Ok ((fP LC (aR.mk ({p with bz:=(bQ.mk q.2.1 m)}:aE) [])).bind λB=>(rk LC p.bS 1 e.A 1 B).bind λy=>c5 (cT (aR.mk ({p with bz:=(bQ.mk q.2.1 m),bS:=y.1}:aE) []) y.2)) λi=>∃g l,i=cT g l/\gi p e g l:=λm A=>by
  refine c8 (a:=p.au.aa0) rfl ?_
  refine aD (QP d.iI 1 e.A 1 p.au.aa0) λh c=>ae ⟨_,_,rfl,⟨λh0=>.JD _ _ D A c.1 (c.2.1 h0),λ_=>c.1,by simp⟩⟩
 by_cases s:0<(p.bz.an.length:Int)
 .rw[aC s];have I:p.bz.an.length=p.ao.ai.length:=by
   rcases d.pq with e |e
   .rw[e] at s;simp at s
   .rw[e,d.gk]
  obtain⟨h,x,c⟩:=ajz p.ao p.cI p.ao p.cI p.bz p.au.aa0
  by_cases o:h.2=0
  .have H:h.1.an.length=p.ao.ai.length:=by
    rcases c with c |c
    .exact c.2.1.1
    .exact absurd o c.1
   obtain⟨i,F,C⟩:=apk (a:=q.1) (b:=h.1.an) (by omega) (by omega) h rfl;have v:((fP LC (⟨p,[]⟩:aR)).bind λu=>(uk LC p.ao p.cI p.ao p.cI p.bz u).bind λf=>bif c3 (f.2≠0) then c5 (eE f.2:(List Int)⊕Int) else(bO (λj:List Int×Int=>uq LC f j.1 j.2) (q.1,0)).bind λt=>c5 (ei t))=c5 (ei i):=by
    refine(dL (a:=p.au.aa0) rfl).trans ?_
    rw[x,aa,aG (by rw[o];simp),F,aa]
   refine c8 v ?_
   exact w i (by rw[C,z])
  .have v:((fP LC (⟨p,[]⟩:aR)).bind λu=>(uk LC p.ao p.cI p.ao p.cI p.bz u).bind λf=>bif c3 (f.2≠0) then c5 (eE f.2:(List Int)⊕Int) else(bO (λj:List Int×Int=>uq LC f j.1 j.2) (q.1,0)).bind λt=>c5 (ei t))=c5 (eE h.2):=by
    refine(dL (a:=p.au.aa0) rfl).trans ?_
    rw[x,aa,aC o]
   refine c8 v ?_
   exact ae ⟨_,_,rfl,.same d o⟩
 .rw[aG s,aa];exact w q.1 z
def aiy{a:List bC}(f:Fit a){g:aR}{e:bH}{r:Int}(h:aj g.aI.aa2.af e.A=c5 r):Dv LC a g e=c5 (a.any λb=>c3 (b.akw=r)):=by
 unfold Dv;have d:Er LC a g e=c5 (gg (λb=>c3 (b.akw=r)) a):=by
  unfold Er;refine fF (P:=λc=>B0 LC c g e) f (λc _=>?_) λi=>rfl
  unfold B0;rw[h,aa]
 rw[d,aa,gm]
def afn{b:List Int}(d:Fit b):zA LC b=c5 (b.any λa=>c3 (a≠2)):=by
 unfold zA;have c:CC LC b=c5 (gg (λa=>c3 (a≠2)) b):=by
  unfold CC;exact fF (P:=λa=>KV LC a) d (λa _=>rfl) λf=>rfl
 rw[c,aa,gm]
def anG(b:dW n np p)(G:e.abv=7):Ok (vA LC ⟨p,[]⟩ e) λab=>∃g H,ab=cT g H/\gi p e g H:=by
 have af:=b.key.1.1;have ai:=b.key.2.1;have K:p.au.aN.length=n:=b.iz;have ad:=b.n3;have l:Fit p.aa2.af:=by show _<=4611686018427387904;omega
 unfold vA;dsimp only;rw[aJ,cF,aa,de];refine aV (λB=>?_) (λ_=>ae ⟨_,_,rfl,.same b (by decide)⟩)
 have u:p.aa2.af[e.A.toNat]?=c5 (p.aa2.af[e.A.toNat]'(by omega)):=c4 _;generalize p.aa2.af[e.A.toNat]'(by omega)=r at u;have N:aj p.aa2.af e.A=c5 r:=by unfold aj;rw[if_pos B.1];exact u
 refine c8 (aiy (by show _<=4611686018427387904;omega) N) ?_
 refine dy (λ_=>ae ⟨_,_,rfl,.same b (by decide)⟩) (λJ=>?_)
 have E:∀f,f∈p.au.aN->∀r,p.aa2.af[e.A.toNat]?=c5 r->f.akw≠r:=λf O ac j=>by
  rw[u] at j;injection j with j
  subst j;intro c;have:(p.au.aN.any λf=>c3 (f.akw=r))=true:=h7.2 ⟨f,O,decide_eq_true c⟩;rw[J] at this;cases this
 obtain⟨s,R,t⟩:=Dx (k:=p.aa2) e.A 0 1 l;refine c8 (a:=(s.1,s.2)) (by unfold GQ;rw[R,aa]) ?_
 dsimp only;refine aV (λc=>ae ⟨_,_,rfl,.bad b c rfl⟩) (λc=>?_)
 have t:=t.resolve_left λb=>c b.1
 obtain⟨_,W,_,ag,D,m⟩:=t;have L:ff s.1:=by rw[m];exact W.move (by decide)
 obtain⟨d,T,x⟩:=Dx (k:=s.1) e.A 1 2 (by rw[m];exact l);refine c8 (a:=(d.1,d.2)) (by unfold J0;rw[T,aa]) ?_
 dsimp only;refine aV (λc=>ae ⟨_,_,rfl,.bad b c rfl⟩) (λU=>?_)
 have x:=x.resolve_left λb=>U b.1
 obtain⟨_,_,_,_,_,q⟩:=x;have o:ff d.1:=by rw[q];exact L.move (by decide)
 have C:d.1.af=p.aa2.af:=by rw[q,m]
 have v:d.1.aa2=p.aa2.aa2.set e.A.toNat 2:=by rw[q,m];exact List.set_set _
 have V:d.1.Out=false:=by rw[q]
 rw[afn (by show _<=4611686018427387904;rw[v,dt];omega),aa];refine dy (λ_=>ae ⟨_,_,rfl,.lP rfl (.guard d.1 G C v V D o B.1 E)⟩) (λP=>?_)
 have F:∀i,i∈d.1.aa2->i=2:=λi X=>by
  by_cases c:i=2
  .exact c
  .have:(d.1.aa2.any λQ=>c3 (Q≠2))=true:=h7.2 ⟨i,X,decide_eq_true c⟩;rw[P] at this;cases this
 obtain⟨A,S,y⟩:=ap1 (k:=d.1) (by rw[C];exact l);rw[S,aa];refine aV (λc=>ae ⟨_,_,rfl,.bad b c rfl⟩) (λM=>?_)
 have y:=y.resolve_left λb=>M b.1
 obtain⟨_,_,_,_,h⟩:=y;refine c8 (a:=p.au.aa0) rfl ?_
 have w:A.1.af=p.aa2.af:=by rw[h];exact C
 have ak:=b.mq;have ah:=b.gq.2.1;refine aD (Uw p.ao p.bw A.1.af p.au.aa0 (n:=p.au.aN.length) (np:=p.ao.ai.length) (by omega) (by rw[b.gk];omega) b.lC.be (by rw[w];exact l) (by show _<=4611686018427387904;omega) (by rw[K,b.gk];exact b.hZ.mX) rfl) λZ Y=>ae ⟨_,_,rfl,?_⟩
 rcases Y with⟨z,I⟩ |z
 .rw[w] at I;refine .lP z (.shut A.1 Z.1 G w ?_ ?_ ?_ D ?_ B.1 E I)
  .rw[h];exact v
  .rw[h];exact F
  .rw[h]
  .rw[h];exact⟨o.1,o.2.1,o.2.2.1,λ_=>F⟩
 .exact .bad b z rfl
def amp(b:dW n np p)(C:e.abv=5):Ok (yb LC ⟨p,[]⟩ e) λJ=>∃g D,J=cT g D/\gi p e g D:=by
 have o:p.au.aN.length=n:=b.iz;have K:=b.n3;have N:=b.mq;have L:=b.key.1.1;unfold yb;refine aD (ZX (x:=p.au) e.A e.B b.kN.fit (by have:=b.kj;have:=b.jR;omega)) λq H=>?_
 rcases H with⟨i,M⟩ |⟨i,y,t,B,m,⟨s,u,A,r,w⟩,h⟩
 .rw[aC i];exact ae ⟨_,_,rfl,.bad b i rfl⟩
 rw[aG (by rw[i];simp)];refine c8 (a:=p.au.aa0) (by unfold fP;rw[h]) ?_
 refine aD (RM p.ao p.bw e.A e.B p.au.aa0 (n:=p.au.aN.length) (np:=p.ao.ai.length) (by omega) (by rw[b.gk];omega) b.lC.be (by rw[o,b.gk];exact b.hZ.mX)) λf j=>?_
 by_cases c:f.2=0
 rotate_left
 .rw[aC c,aa,cond_true];exact ae ⟨_,_,rfl,.bad b c rfl⟩
 have j:=j.resolve_right λb=>b.1 c
 rw[aG (by rw[c];simp)];refine c8 (a:=!c3 (0<((p.bq.aA).length:Int))) rfl ?_
 rw[de];refine Or.elim (Decidable.em (0<((p.bq.aA).length:Int))) (λd=>?_) (λd=>?_)
 rotate_left
 .rw[aG d];refine ae ⟨_,_,rfl,.lP c ?_⟩
  exact .swap q.1 f.1 p.bq s u C y t B m A r w h j.2 (.inl ⟨eH.1 (by omega),rfl⟩)
 rw[aC d]
 .have F:p.bq.aA≠[]:=λG=>by rw[G] at d;simp at d
  refine aD (CF (g:=⟨{p with au:=q.1,bw:=f.1},[]⟩) b.gq b.jY (by show p.aa2.af.length<=_;omega)) λz l=>?_
  refine c8 (a:=p.au.aa0) (by unfold fP;rw[h]) ?_
  have l:ki p.ao p.aa2.af ⟨z.1,z.2⟩:=l;refine aD (RM ⟨z.1,z.2⟩ p.bq e.A e.B p.au.aa0 (n:=p.au.aN.length) (np:=p.ao.ai.length) (by omega) (by rw[b.gk];omega) b.lC.se (by rw[o,b.gk];exact b.je.mX)) λv I=>ae ⟨_,_,rfl,?_⟩
  rcases I with⟨k,E⟩ |⟨k,_⟩
  .exact .lP k (.swap q.1 f.1 v.1 s u C y t B m A r w h j.2 (.inr ⟨_,F,l,E⟩))
  .exact .bad b k rfl
end
section
variable {n np:Nat}{p:aE}{e:bH}
def Uc(c:dW n np p)(b:aB){a:Int}{r:aZ}{nm:List Int}(L:0<=a)(t:p.ao.af[a.toNat]?=c5 r):Ok (xg LC ⟨{p with au:=b},nm⟩ a) λG=>∃g s,G=cT g s/\(s=0->oP {p with au:=b} a g.aI)/\g.aI.bS=p.bS/\g.named=nm:=by
 have m:=c.lC;have ad:=(ef.1 t).1;have ag:=c.uD;have af:=c.gq.1;have ah:=c.gq.2.1;unfold xg;dsimp only;rw[zS m.fl,aa,mV m.pl,aa,nk m.rd,aa];have Z:aj p.ao.af a=c5 r:=by unfold aj;rw[if_pos L];exact t
 have C:p.cI[a.toNat]?=c5 (p.cI[a.toNat]'(by omega)):=c4 _;generalize p.cI[a.toNat]'(by omega)=f at C;have ab:aj p.cI a=c5 f:=by unfold aj;rw[if_pos L];exact C
 rw[Z,aa,t,aa,ab,aa,C,aa,aa];have V:ak.mk p.ao.ai (p.ao.af.set a.toNat {r with eN:=true})=cY p.ao a:=by unfold cY;rw[t]
 rw[V];show Ok ((fP LC ⟨{p with au:=b,ao:=cY p.ao a},nm⟩).bind λR=>(kW LC (cY p.ao a) p.bw R).bind _) _
 refine c8 (a:=b.aa0) rfl ?_
 obtain⟨q,K,y⟩:=Gq (cY p.ao a) p.bw b.aa0 m.be (by show p.ao.ai.length<=4611686018427387904;omega);rw[K,aa]
 by_cases k:q.2=0
 rotate_left
 .rw[aC k];exact ae ⟨⟨{p with au:=b,ao:=cY p.ao a,bw:=q.1},nm⟩,q.2,rfl,λc=>absurd c k,rfl,rfl⟩
 rw[aG (by rw[k];simp)];have y:=y.resolve_right λc=>c.1 k
 obtain⟨_,B,_,_,M⟩:=y;have P:kW LC (cY p.ao a) p.bw b.aa0=c5 (q.1,0):=by rw[K, <-k]
 have W:=uF p.ao a;refine c8 (a:=c3 (0<(p.bq.aA.length:Int))) rfl ?_
 have H:∀(d:aL) (j:ak),((p.bq.aA=[]/\d=p.bq)\/(p.bq.aA≠[]/\ki (cY p.ao a) p.aa2.af j/\gG (λY X=>mP j Y b.aa0 X) p.bq.aA d.aA))->
  Ok (bif c3 (0<((p.bz.an).length:Int)) then
  (fP LC ⟨{p with au:=b,ao:=cY p.ao a,bw:=q.1,bq:=d},nm⟩).bind λS=>
  (yg LC (p.cI.set a.toNat (bI.mk 0 0)) p.ao p.cI (cY p.ao a) p.bz S).bind λl=>
  bif c3 (l.2.2≠0) then
   c5 (cT ⟨{p with au:=b,ao:=cY p.ao a,bw:=q.1,bq:=d,bz:=l.2.1},nm⟩ l.2.2)
  else
   c5 (cT ⟨{p with au:=b,ao:=cY p.ao a,bw:=q.1,bq:=d,cI:=l.1,bz:=l.2.1},nm⟩ 0)
  else
   c5 (cT ⟨{p with au:=b,ao:=cY p.ao a,bw:=q.1,bq:=d,cI:=p.cI.set a.toNat (bI.mk 0 0)},nm⟩ 0)) λG=>∃g s,G=cT g s/\(s=0->oP {p with au:=b} a g.aI)/\g.aI.bS=p.bS/\g.named=nm:=by
   intro d j N;refine aV (λA=>?_) (λA=>?_)
   .refine c8 (a:=b.aa0) rfl ?_
    refine aD (akv p.ao p.cI (cY p.ao a) (p.cI.set a.toNat (bI.mk 0 0)) p.bz b.aa0) λO I=>?_
    refine aV (λi=>ae ⟨_,_,rfl,λc=>absurd c i,rfl,rfl⟩) (λi=>?_)
    have U:=I.2.resolve_right λc=>i c.1
    refine ae ⟨_,_,rfl,λ_=>⟨q.1,d,O.1,O.2.1,j,rfl,by rw[I.1,dt],P,B,M,N,.inr ⟨λi=>by rw[i] at A;simp at A,U.2.1.1⟩⟩,rfl,rfl⟩
   .exact ae ⟨_,_,rfl,λ_=>⟨q.1,d,_,p.bz,j,rfl,by rw[dt],P,B,M,N,.inl ⟨eH.1 (show p.bz.an.length=0 by omega),rfl⟩⟩,rfl,rfl⟩
 by_cases u:0<(p.bq.aA.length:Int)
 .rw[aC u];have T:p.bq.aA≠[]:=λi=>by rw[i] at u;simp at u
  obtain⟨z,J,w⟩:=CF (g:=⟨{p with au:=b,ao:=cY p.ao a,bw:=q.1},nm⟩) B (by show cj 0 (((cY p.ao a).af.length:Int) -1) p.aa2.af;rw[W];exact c.jY) (by show p.aa2.af.length<=_;have:=c.key.1.1;omega);have w:ki (cY p.ao a) p.aa2.af ⟨z.1,z.2⟩:=w;obtain⟨v,Q,D⟩:=Gq ⟨z.1,z.2⟩ p.bq b.aa0 m.se (by have:=congrArg hL w.pl;show z.1.length<=4611686018427387904;have ac:z.1.length=p.ao.ai.length:=this;omega)
  by_cases x:v.2=0
  .have F:((mT LC ⟨{p with au:=b,ao:=cY p.ao a,bw:=q.1},nm⟩).bind λo=>(fP LC ⟨{p with au:=b,ao:=cY p.ao a,bw:=q.1},nm⟩).bind λE=>(kW LC (ak.mk o.1 o.2) p.bq E).bind λh=>
    bif c3 (h.2≠0) then c5 (eE (iv ⟨{p with au:=b,ao:=cY p.ao a,bw:=q.1,bq:=h.1},nm⟩ h.2):jk⊕jU) else c5 (ei (fj ⟨{p with au:=b,ao:=cY p.ao a,bw:=q.1,bq:=h.1},nm⟩)))=c5 (ei (fj ⟨{p with au:=b,ao:=cY p.ao a,bw:=q.1,bq:=v.1},nm⟩)):=by
    rw[J,aa];refine(dL (a:=b.aa0) rfl).trans ?_
    rw[Q,aa,aG (by rw[x];simp)]
   refine c8 F ?_
   have D:=D.resolve_right λc=>c.1 x
   exact H v.1 ⟨z.1,z.2⟩ (.inr ⟨T,w,D.2.2.2.2⟩)
  .have F:((mT LC ⟨{p with au:=b,ao:=cY p.ao a,bw:=q.1},nm⟩).bind λo=>(fP LC ⟨{p with au:=b,ao:=cY p.ao a,bw:=q.1},nm⟩).bind λE=>(kW LC (ak.mk o.1 o.2) p.bq E).bind λh=>
    bif c3 (h.2≠0) then c5 (eE (iv ⟨{p with au:=b,ao:=cY p.ao a,bw:=q.1,bq:=h.1},nm⟩ h.2):jk⊕jU) else c5 (ei (fj ⟨{p with au:=b,ao:=cY p.ao a,bw:=q.1,bq:=h.1},nm⟩)))=c5 (eE (iv ⟨{p with au:=b,ao:=cY p.ao a,bw:=q.1,bq:=v.1},nm⟩ v.2)):=by
    rw[J,aa];refine(dL (a:=b.aa0) rfl).trans ?_
    rw[Q,aa,aC x]
   refine c8 F ?_
   exact ae ⟨⟨{p with au:=b,ao:=cY p.ao a,bw:=q.1,bq:=v.1},nm⟩,v.2,rfl,λc=>absurd c x,rfl,rfl⟩
 .rw[aG u,aa];exact H p.bq p.ao (.inl ⟨eH.1 (by omega),rfl⟩)
def Oc(a:dW n np p){nm:List Int}:Ok (tM LC ⟨p,nm⟩ e) λi=>∃g b,i=cT g b/\(b=0->fw p.au/\0<=e.A/\(∃r,p.au.ao.af[e.A.toNat]?=c5 r/\r.eN=false)/\oP {p with au:={p.au with ao:=cY p.au.ao e.A,aN:=p.au.aN.map (n8 e.A)}} e.A g.aI)/\g.aI.bS=p.bS/\g.named=nm:=by
 unfold tM;refine aD (Uf (x:=p.au) e.A a.kN.fit) λq t=>?_
 rcases t with⟨c,h⟩ |⟨c,h,d,⟨r,f,o⟩,m⟩
 .rw[aC c];exact ae ⟨_,_,rfl,λa=>absurd a c,rfl,rfl⟩
 rw[aG (by rw[c];simp),m];refine aD (Uc a {p.au with ao:=cY p.au.ao e.A,aN:=p.au.aN.map (n8 e.A)} (r:=r) (nm:=nm) d (by rw[<-a.fN];exact f)) λi s=>?_
 obtain⟨g,b,rfl,j,l,k⟩:=s;exact ae ⟨g,b,rfl,λu=>⟨h,d,⟨r,f,o⟩,j u⟩,l,k⟩
def agT(b:dW n np p)(r:e.abv=11):Ok (tM LC ⟨p,[]⟩ e) λc=>∃g a,c=cT g a/\gi p e g a:=WI (Oc b) λc m=>by
 obtain⟨g,a,d,j,f,k⟩:=m;refine⟨g,a,d,λo=>?_,λ_=>by rw[f];exact gj.refl b.iI,by rw[k];simp⟩
 obtain⟨i,l,q,h⟩:=j o;exact .xZ _ r i l q h
def akk(r:VA p.bS):Ok (bO (λc:List Int×Int=>Co LC ⟨p,[]⟩ c.1 c.2) ([],0)) λg=>g.length<=64/\∀a,a∈g->∃b,b∈p.bS/\fX b 2 a:=by
 have l:=r.1;refine di p.bS.length (λi c=>c.2=(i:Int)/\c.1.length<=i/\∀a,a∈c.1->∃b,b∈p.bS/\fX b 2 a) _ (λi c k h=>?_) (λc h=>?_) _ ⟨rfl,gb _,λa d=>by cases d⟩
 .obtain⟨q,s⟩:=c;obtain⟨rfl,j,d⟩:=h;dsimp only at j d⊢;unfold Co;dsimp only;have m:=c4 k;have o:=dv k;generalize p.bS[i]=b at m o;rw[aC,bn,m,aa,aJ];refine aD (Q:=λg:List Int=>g.length<=i+1/\∀a,a∈g->∃b,b∈p.bS/\fX b 2 a) ?_ λg l=>ae ⟨rfl,l⟩
  refine aV (λt=>?_) (λ_=>ae ⟨by omega,d⟩)
  rw[dm (by decide) (by omega),aa];refine ae ⟨by rw[ev];simp;omega,λa f=>?_⟩
  rcases e4.1 f with f |f
  .exact d a f
  .rw[dk] at f;exact⟨b,o,t,f.symm⟩
 .obtain⟨q,s⟩:=c;obtain⟨rfl,j,d⟩:=h;dsimp only at j d⊢;unfold Co;dsimp only;rw[aG];exact ae ⟨by omega,d⟩
def abh(r:VA p.bS)(d:ak×List Int×Int)(w:d.2.1.length<=768):Ok (bO (λg:nH=>tB LC d ⟨p,[]⟩ (tP p.cq p.bZ p.bB g) (um g)) (jw ⟨p,d.2.1⟩ 0)) λf=>∃c,f=fj ⟨{p with bS:=c},d.2.1⟩/\gj p.bS c:=by
 refine di d.2.1.length (λi g=>∃c,g=jw ⟨{p with bS:=c},d.2.1⟩ (i:Int)/\gj p.bS c) _ (λi g s k=>?_) (λg k=>?_) _ ⟨p.bS,rfl,gj.refl r⟩
 .obtain⟨c,rfl,h⟩:=k;show Ok (tB LC d ⟨p,[]⟩ ⟨{p with bS:=c},d.2.1⟩ (i:Int)) _
  unfold tB;rw[aC,bn,c4 s,aa];refine c8 (a:=p.au.aa0) rfl ?_
  obtain⟨q,u,v⟩:=QP h.1 2 (d.2.1[i]) 2 p.au.aa0;refine c8 u ?_
  have fin:∀j,gj p.bS j->Ok (c5 (ei (jw ⟨{p with bS:=j},d.2.1⟩ (IntKind.i64.wrap ((i:Int)+1)))):Option (nH⊕jk)) λf=>match f with
   | .inl o=>∃c,o=jw ⟨{p with bS:=c},d.2.1⟩ ((i+1:Nat):Int)/\gj p.bS c
   | .inr b=>∃c,b=fj ⟨{p with bS:=c},d.2.1⟩/\gj p.bS c:=λj t=>by
   rw[aJ];exact ae ⟨j,rfl,t⟩
  by_cases m:q.2=0
  .rw[aC m,aa];exact WI (fin q.1 (h.trans v.1)) λf l=>by cases f <;> exact l
  .rw[aG m,aa];exact WI (fin c h) λf l=>by cases f <;> exact l
 .obtain⟨c,rfl,h⟩:=k;show Ok (tB LC d ⟨p,[]⟩ ⟨{p with bS:=c},d.2.1⟩ (d.2.1.length:Int)) _
  unfold tB;rw[aG];exact ae ⟨c,rfl,h⟩
def af5(c:dW n np p)(G:fw p.au)(F:e.abv=12):Ok (xQ LC ⟨p,[]⟩ e) λr=>∃g k,r=cT g k/\gi p e g k:=by
 have j:=c.lC;have J:=c.gq.1;have M:=c.gq.2.1;have K:0<=p.au.aa0/\p.au.aa0<=2147483648:=G.2.2.2.2.1;unfold xQ;dsimp only;rw[aJ,cF,aa]
 by_cases o:0<=e.A/\e.A<=(p.ao.af.length:Int) -1
 rotate_left
 .rw[decide_eq_false o,Bool.not_false,cond_true,aa,cond_true];exact ae ⟨_,_,rfl,.same c (by decide)⟩
 rw[decide_eq_true o,eo,cond_false];have y:aj p.ao.af e.A=c5 (p.ao.af[e.A.toNat]'(by omega)):=by unfold aj;rw[if_pos o.1];exact c4 _
 rw[y,aa,aa];refine dy (λ_=>ae ⟨_,_,rfl,.same c (by decide)⟩) (λ_=>?_)
 refine c8 (a:=p.au.aa0) rfl ?_
 rw[aJ,Oo j.sm,aa];refine aD (akk c.iI) λal w=>?_
 refine c8 (a:=p.au.aa0) rfl ?_
 have L:(filled p.bz (p.au.aa0+600)).length<=64:=by
  have I:(filled p.bz (p.au.aa0+600)).length<=p.bz.an.length:=pQ;have v:=c.mq;have u:p.bz.an.length<=64:=by
   rcases c.pq with i |i
   .rw[i];simp
   .omega
  omega
 obtain⟨q,A,f⟩:=Ws (m:=p.ao) (e:={p.bR with dg:=filled p.bz (p.au.aa0+600)}) (b:=p.bw) (a:=e.A) (al:=al) (t:=p.au.aa0) (ahead:=600) j.pl j.rd ⟨c.kI.1.s,by show(filled p.bz (p.au.aa0+600)).length<=4611686018427387904;omega,c.kI.1.h⟩ j.be (by show al.length<=4611686018427387904;have:=w.1;omega);rw[A,aa]
 by_cases d:q.2.2=0
 .rw[aG (by rw[d];decide),aa];rw[aG (by rw[d];simp)];refine aD (Oc (p:=p) (e:=e) c (nm:=q.2.1)) λr l=>?_
  obtain⟨g,k,rfl,v,i,u⟩:=l;refine ae ⟨g,k,rfl,λh=>?_,λ_=>by rw[i];exact gj.refl c.iI,by rw[u];exact f.1⟩
  obtain⟨D,B,E,z⟩:=v h;exact .xY _ al q F w.2 (f.2 d) D B E z
 .by_cases s:q.2.2=46
  .rw[aC s];obtain⟨r,H,x,l,C⟩:=abh c.iI q f.1;refine c8 (a:=fj ⟨{p with bS:=x},q.2.1⟩) ?_ ?_
   .refine(dL H).trans ?_
    rw[l]
    rfl
   .rw[aC d];exact ae ⟨⟨{p with bS:=x},q.2.1⟩,q.2.2,rfl,λh=>absurd h d,λ_=>C,f.1⟩
  .rw[aG s,aa,aC d];exact ae ⟨⟨p,q.2.1⟩,q.2.2,rfl,λh=>absurd h d,λ_=>gj.refl c.iI,f.1⟩
end
section
variable {n np:Nat}{p:aE}{e:bH}
def eL(p:aE)(b:bA)(a:b7):aE:={p with aa2:=b,cL:=a}
def aad(d:b7){f:bA}(h0:ff f)(V:f.af=p.aa2.af)(U:f.Out=false):Ok (bO (λs:nH=>qm LC ⟨eL p f d,[]⟩ ⟨p,[]⟩ (tP p.cq p.bZ p.bB s) (um s)) (jw ⟨eL p f d,[]⟩ 0)) λc=>(∃k,c=eE (fj ⟨eL p k d,[]⟩)/\ff k/\k.af=p.aa2.af/\k.Out=false/\∀n,n∈k.aa2->n=0)\/∃k g,c=ei (iv ⟨eL p k d,[]⟩ g)/\g≠0:=by
 have ac:=h0.2.1;have af:=h0.1.1;refine di f.aa2.length (λi s=>∃k,s=jw ⟨eL p k d,[]⟩ (i:Int)/\ff k/\k.af=p.aa2.af/\k.Out=false/\k.aa2.length=f.aa2.length/\∀(b:Nat) n,b<i->k.aa2[b]?=c5 n->n=0) _ (λi s ad L=>?_) (λs L=>?_) _ ⟨f,rfl,h0,V,U,rfl,λb n u=>by omega⟩
 .obtain⟨k,rfl,t,C,M,J,B⟩:=L;show Ok (qm LC ⟨eL p f d,[]⟩ ⟨p,[]⟩ ⟨eL p k d,[]⟩ (i:Int)) _
  unfold qm;have A:k.aa2[i]?=c5 (k.aa2[i]'(by omega)):=c4 _;generalize k.aa2[i]'(by omega)=v at A;have ab:=t.2.2.1 v (fC A);rw[aC (by show(i:Int)<(f.aa2.length:Int);omega)];show Ok ((aj k.aa2 (i:Int)).bind _) _
  rw[bn,A,aa];have bad:∀(q:bA) (g:Int),g≠0->Ok (c5 (eE (ei (iv ⟨eL p q d,[]⟩ g))):Option (nH⊕(jU⊕jk))) λc=>match c with
   | .inl w=>∃k,w=jw ⟨eL p k d,[]⟩ ((i+1:Nat):Int)/\ff k/\k.af=p.aa2.af/\k.Out=false/\k.aa2.length=f.aa2.length/\∀(b:Nat) n,b<i+1->k.aa2[b]?=c5 n->n=0
   | .inr c=>(∃k,c=eE (fj ⟨eL p k d,[]⟩)/\ff k/\k.af=p.aa2.af/\k.Out=false/\∀n,n∈k.aa2->n=0)\/∃k g,c=ei (iv ⟨eL p k d,[]⟩ g)/\g≠0:=λq g W=>ae (.inr ⟨q,g,rfl,W⟩)
  have fin:∀q:bA,ff q->q.af=p.aa2.af->q.Out=false->q.aa2.length=f.aa2.length->(∀(b:Nat) n,b<i+1->q.aa2[b]?=c5 n->n=0)->Ok (c5 (ei (jw ⟨eL p q d,[]⟩ (IntKind.i64.wrap ((i:Int)+1)))):Option (nH⊕(jU⊕jk))) λc=>match c with
   | .inl w=>∃k,w=jw ⟨eL p k d,[]⟩ ((i+1:Nat):Int)/\ff k/\k.af=p.aa2.af/\k.Out=false/\k.aa2.length=f.aa2.length/\∀(b:Nat) n,b<i+1->k.aa2[b]?=c5 n->n=0
   | .inr c=>(∃k,c=eE (fj ⟨eL p k d,[]⟩)/\ff k/\k.af=p.aa2.af/\k.Out=false/\∀n,n∈k.aa2->n=0)\/∃k g,c=ei (iv ⟨eL p k d,[]⟩ g)/\g≠0:=λq y z I F D=>by
   rw[aJ];exact ae ⟨q,rfl,y,z,I,F,D⟩
  have P:∀q:bA,ff q->q.af=p.aa2.af->q.Out=false->q.aa2.length=f.aa2.length->(∀(b:Nat) n,b<i->q.aa2[b]?=c5 n->n=0)->(∃x,q.aa2[i]?=c5 x/\(x=0\/x=1))->Ok ((aj q.aa2 (i:Int)).bind λY=>
   (bif c3 (Y=1) then
    (vJ LC q (i:Int)).bind λG=>
    bif c3 (G.2≠0) then c5 (eE (iv ⟨eL p G.1 d,[]⟩ G.2)) else c5 (ei (fj ⟨eL p G.1 d,[]⟩))
    else c5 (ei (fj ⟨eL p q d,[]⟩)):Option (jk⊕jU)).bind λX=>
   hM (λT=>c5 (ei (jw (lu p.cq p.bZ p.bB T) (IntKind.i64.wrap ((i:Int)+1))))) (λR=>c5 (eE (ei (iv (nT p.cq p.bZ p.bB R) (nO R))))) X) λc=>match c with
   | .inl w=>∃k,w=jw ⟨eL p k d,[]⟩ ((i+1:Nat):Int)/\ff k/\k.af=p.aa2.af/\k.Out=false/\k.aa2.length=f.aa2.length/\∀(b:Nat) n,b<i+1->k.aa2[b]?=c5 n->n=0
   | .inr c=>(∃k,c=eE (fj ⟨eL p k d,[]⟩)/\ff k/\k.af=p.aa2.af/\k.Out=false/\∀n,n∈k.aa2->n=0)\/∃k g,c=ei (iv ⟨eL p k d,[]⟩ g)/\g≠0:=λq y z I F D ⟨x,Q,Z⟩=>by
   rw[bn,Q,aa]
   by_cases S:x=1
   .rw[aC S];obtain⟨h,E,N⟩:=Dx (k:=q) (i:Int) 1 0 (by show _<=4611686018427387904;have:=y.1.1;omega);rw[show vJ LC q (i:Int)=c5 h by unfold vJ;rw[E,aa],aa]
    by_cases o:h.2=0
    .rw[aG (by rw[o];simp),aa];obtain⟨_,_,_,_,_,j⟩:=N.resolve_left λK=>K.1 o
     rw[e5] at j;refine WI (fin h.1 (by rw[j];exact y.move (by decide)) (by rw[j];exact z) (by rw[j]) (by rw[j,dt];exact F) λb r u l=>?_) λc m=>by cases c <;> exact m
     rw[j] at l
     by_cases H:i=b
     .subst H;have:(q.aa2.set i 0)[i]?=c5 r:=l;rw[ec (by omega)] at this;injection this with this
      exact this.symm
     .have:(q.aa2.set i 0)[b]?=c5 r:=l;rw[ea H] at this;exact D b r (by omega) this
    .rw[aC o,aa];exact WI (bad h.1 h.2 o) λc m=>by cases c <;> exact m
   .rw[aG S,aa];refine WI (fin q y z I F λb r u l=>?_) λc m=>by cases c <;> exact m
    by_cases H:i=b
    .subst H;rw[Q] at l;injection l with l
     omega
    .exact D b r (by omega) l
  by_cases O:v=2
  .rw[aC O];obtain⟨h,E,N⟩:=Dx (k:=k) (i:Int) 2 1 (by show _<=4611686018427387904;have:=t.1.1;omega)
   by_cases o:h.2=0
   .obtain⟨_,_,_,_,_,j⟩:=N.resolve_left λK=>K.1 o
    rw[e5] at j;refine c8 (a:=ei (fj ⟨eL p h.1 d,[]⟩)) ?_ ?_
    .show((qu LC k (i:Int)).bind _)=_
     rw[show qu LC k (i:Int)=c5 h by unfold qu;rw[E,aa],aa,aG (by rw[o];simp)]
     rfl
    .refine WI (P h.1 (by rw[j];exact t.move (by decide)) (by rw[j];exact C) (by rw[j]) (by rw[j,dt];exact J) (λb r u l=>?_) ⟨1,by rw[j];exact ec (by omega),.inr rfl⟩) λc m=>by cases c <;> exact m
     rw[j] at l;have:(k.aa2.set i 1)[b]?=c5 r:=l;rw[ea (by omega)] at this;exact B b r u this
   .refine c8 (a:=eE (iv ⟨eL p h.1 d,[]⟩ h.2)) ?_ ?_
    .show((qu LC k (i:Int)).bind _)=_
     rw[show qu LC k (i:Int)=c5 h by unfold qu;rw[E,aa],aa,aC o]
     rfl
    .exact WI (bad h.1 h.2 o) λc m=>by cases c <;> exact m
  .rw[aG O,aa];exact WI (P k t C M J B ⟨v,A,by omega⟩) λc m=>by cases c <;> exact m
 .obtain⟨k,rfl,t,C,M,J,B⟩:=L;show Ok (qm LC ⟨eL p f d,[]⟩ ⟨p,[]⟩ ⟨eL p k d,[]⟩ (f.aa2.length:Int)) _
  unfold qm;rw[aG (by show ¬(f.aa2.length:Int)<(f.aa2.length:Int);omega)];refine ae (.inl ⟨k,rfl,t,C,M,λr l=>?_⟩)
  obtain⟨b,u,rfl⟩:=dd.1 l;exact B b _ (by omega) (c4 u)
def YJ(c:dW n np p)(O:e.abv=13):Ok (xE LC ⟨p,[]⟩ e) λi=>∃g f,i=cT g f/\gi p e g f:=by
 have Q:=c.key.1.1;have E:=c.key.2.1;unfold xE;refine aD (O5 (k:=p.aa2) (by omega) (by omega)) λR E=>?_
 refine aV (λ_=>ae ⟨_,_,rfl,.same c (by decide)⟩) (λ_=>?_)
 have D:∀(b:b7) (k:bA),(b=p.cL/\p.cL.State=0\/b=⟨0,0,0,0⟩)->ff k->k.af=p.aa2.af->k.Out=false->Ok ((bO (λs=>qm LC ⟨eL p k b,[]⟩ ⟨p,[]⟩ (tP p.cq p.bZ p.bB s) (um s)) (jw ⟨eL p k b,[]⟩ 0)).bind λy=>
  hM (λj=>c5 (cT (nT p.cq p.bZ p.bB j) (nO j))) (λu=>let l:=lu p.cq p.bZ p.bB u;c5 (cT (aR.mk ({l.aI with bq:=(aL.mk ([]:List ay))}:aE) l.named) 0)) y) λi=>∃g f,i=cT g f/\gi p e g f:=λb k r K H L=>by
  refine aD (aad b K H L) λi v=>?_
  rcases v with⟨m,rfl,F,G,I,P⟩ |⟨m,f,rfl,J⟩
  .exact ae ⟨⟨{p with aa2:=m,cL:=b,bq:=⟨[]⟩},[]⟩,0,rfl,.lP rfl (.JF m b O G F I P r)⟩
  .exact ae ⟨⟨eL p m b,[]⟩,f,rfl,.bad c J rfl⟩
 have B:∀b:b7,(b=p.cL/\p.cL.State=0\/b=⟨0,0,0,0⟩)->Ok ((bif p.aa2.Out then
  (vQ LC p.aa2).bind λo=>
  bif c3 (o.2≠0) then c5 (eE (iv ⟨eL p o.1 b,[]⟩ o.2)) else c5 (ei (fj ⟨eL p o.1 b,[]⟩))
  else c5 (ei (fj ⟨eL p p.aa2 b,[]⟩)):Option (jk⊕jU)).bind λM=>
  hM (λN=>
   let C:=lu p.cq p.bZ p.bB N
   (bO (λs=>qm LC C ⟨p,[]⟩ (tP p.cq p.bZ p.bB s) (um s)) (jw C 0)).bind λy=>
    hM (λj=>c5 (cT (nT p.cq p.bZ p.bB j) (nO j))) (λu=>let l:=lu p.cq p.bZ p.bB u;c5 (cT (aR.mk ({l.aI with bq:=(aL.mk ([]:List ay))}:aE) l.named) 0)) y)
   (λA=>c5 (cT (nT p.cq p.bZ p.bB A) (nO A))) M) λi=>∃g f,i=cT g f/\gi p e g f:=λb r=>by
   cases v:p.aa2.Out with
   |false=>
    rw[cond_false,aa];exact D b p.aa2 r c.key rfl v
   |true=>
    rw[cond_true];obtain⟨d,q,z⟩:=Zw (k:=p.aa2) (by show _<=4611686018427387904;omega);rw[q,aa]
    by_cases h:d.2=0
    .rw[aG (by rw[h];simp),aa];obtain⟨_,_,t⟩:=z.resolve_left λc=>c.1 h
     exact D b d.1 r (by rw[t];exact⟨c.key.1,c.key.2.1,c.key.2.2.1,λc=>by cases c⟩) (by rw[t]) (by rw[t])
    .rw[aC h,aa];exact ae ⟨⟨eL p d.1 b,[]⟩,d.2,rfl,.bad c h rfl⟩
 by_cases w:p.cL.State=0
 .rw[aG (by show ¬p.cL.State≠0;simp[w]),aa];exact B p.cL (.inl ⟨rfl,w⟩)
 .rw[aC w];obtain⟨d,q,z⟩:=Yc (x:=p.bM) (s:=p.cL) p.au.aa0 (ga c.qx (by decide))
  by_cases h:d.2=0
  .refine c8 (a:=ei (fj ⟨eL p p.aa2 d.1,[]⟩)) ?_ ?_
   .refine(dL (a:=p.au.aa0) rfl).trans ?_
    refine(dL q).trans ?_
    rw[aG (by rw[h];simp)]
    rfl
   .exact B d.1 (.inr (z.resolve_left λc=>c.1 h).2)
  .refine c8 (a:=eE (iv ⟨eL p p.aa2 d.1,[]⟩ d.2)) ?_ ?_
   .refine(dL (a:=p.au.aa0) rfl).trans ?_
    refine(dL q).trans ?_
    rw[aC h]
    rfl
   .exact ae ⟨⟨eL p p.aa2 d.1,[]⟩,d.2,rfl,.bad c h rfl⟩
end
section
variable {n np:Nat}{p:aE}{e:bH}
structure tN (n np:Nat) (p:aE) (rd:aS):Prop where
 n3:n<=3
 mq:np<=64
 gq:cP p.ao
 gk:p.ao.ai.length=np
 jY:cj 0 ((p.ao.af.length:Int) -1) p.aa2.af
 OG:p.aa2.af.length<=12
 hZ:fM n np p.bw
 bne:p.bw.aA≠[]
 je:fM n np p.bq
 BV:Fit rd.ai
 OF:0<=rd.dY/\rd.dY<=10
 OH:1<=rd.dX/\rd.dX<=600
def aiU{l h:aS}{r:aT}{t:List aT}{w:Int}(f:tN n np p h){i:List Int}{b c:aL}(m:fv p.ao p.aa2.af p.au.aa0 l h r t w p.bw p.bq b c){d:dS}(F:DS r l d):Ok (A5 LC ⟨dR p b c,i⟩ d h) λB=>∃s k,B=ol ⟨dR p s k,i⟩ d h/\fv p.ao p.aa2.af p.au.aa0 l h r t w p.bw p.bq s k:=by
 obtain⟨⟨I,U⟩,J,V⟩:=m.shape f.gk f.hZ f.bne f.je;have W:=f.gq.1;have R:Fit p.ao.ai:=by show _<=4611686018427387904;omega
 unfold A5;obtain⟨q,M,N⟩:=LG p.ao b d.Tag h.ai d.an (min d.To p.au.aa0) (I.pR f.n3 f.mq) f.BV R;refine c8 (a:=La d h ⟨dR p b c,i⟩ q.1 q.2) ?_ ?_
 .unfold uX;refine(dL (a:=p.au.aa0) rfl).trans ?_
  refine(dL M).trans rfl
 have C:∀j,fv p.ao p.aa2.af p.au.aa0 l h r t w p.bw p.bq j c->Ok ((ra LC ⟨dR p j c,i⟩).bind λO=>bif (!O) then c5 (ol ⟨dR p j c,i⟩ d h) else(mT LC ⟨dR p j c,i⟩).bind λG=>(uX LC d h ⟨dR p j c,i⟩ (ak.mk G.1 G.2) c).bind λo=>
  let E:=F7 o
  let D:=HJ o
  let A:=G2 o
  let S:=IB o
  let L:=HV o
  bif c3 (L=0) then c5 (ol (aR.mk ({A.aI with bq:=S}:aE) A.named) E D) else c5 (ol A E D)) λB=>∃s k,B=ol ⟨dR p s k,i⟩ d h/\fv p.ao p.aa2.af p.au.aa0 l h r t w p.bw p.bq s k:=λj x=>by
  refine c8 (a:=c3 (0<(c.aA.length:Int))) rfl ?_
  rw[de];refine aV (λH=>?_) (λ_=>ae ⟨j,c,rfl,x⟩)
  have K:c.aA≠[]:=λm=>by rw[m] at H;simp at H
  refine aD (CF (g:=⟨dR p j c,i⟩) f.gq f.jY (by show p.aa2.af.length<=_;have:=f.OG;omega)) λz u=>?_
  have u:ki p.ao p.aa2.af ⟨z.1,z.2⟩:=u;have X:z.1.length=p.ao.ai.length:=congrArg hL u.pl;obtain⟨v,T,Q⟩:=LG ⟨z.1,z.2⟩ c d.Tag h.ai d.an (min d.To p.au.aa0) (J.pR f.n3 f.mq) f.BV (by show z.1.length<=4611686018427387904;omega);refine c8 (a:=La d h ⟨dR p j c,i⟩ v.1 v.2) ?_ ?_
  .unfold uX;refine(dL (a:=p.au.aa0) rfl).trans ?_
   refine(dL T).trans rfl
  show Ok (bif c3 (v.2=0) then c5 (ol ⟨dR p j v.1,i⟩ d h) else c5 (ol ⟨dR p j c,i⟩ d h)) _
  refine aV (λP=>ae ⟨j,v.1,rfl,?_⟩) (λ_=>ae ⟨j,c,rfl,x⟩)
  exact .Lt d _ x F K u (Q.resolve_right λf=>f.1 P).2
 by_cases y:q.2=0
 .refine c8 (a:=qI ⟨dR p q.1 c,i⟩) ?_ (C q.1 (.Ls d m F (N.resolve_right λf=>f.1 y).2))
  show(bif c3 (q.2=0) then _ else _)=_
  rw[aC y]
  rfl
 .refine c8 (a:=qI ⟨dR p b c,i⟩) ?_ (C b m)
  show(bif c3 (q.2=0) then _ else _)=_
  rw[aG y]
  rfl
def afb{u d:aS}{r:aT}{m:List aT}{o:Int}(c:tN n np p d){j:List Int}{b f:aL}(s:fv p.ao p.aa2.af p.au.aa0 u d r m o p.bw p.bq b f){h:Int}{a:dC}(F:h∉r.aw)(G:nc m o h d a):Ok (zg LC ⟨dR p b f,j⟩ h d a (min a.To p.au.aa0)) λA=>∃t l,A=nJ ⟨dR p t l,j⟩ h d a (min a.To p.au.aa0)/\fv p.ao p.aa2.af p.au.aa0 u d r m o p.bw p.bq t l:=by
 obtain⟨⟨K,W⟩,L,X⟩:=s.shape c.gk c.hZ c.bne c.je;have Y:=c.gq.1;have U:Fit p.ao.ai:=by show _<=4611686018427387904;omega
 unfold zg;obtain⟨q,P,Q⟩:=Sj p.ao b h d.ai a.an (min a.To p.au.aa0) ((d.dY+1)*d.dX) (K.pR c.n3 c.mq) c.BV U;refine c8 (a:=Ft h d a (min a.To p.au.aa0) q.1 q.2) ?_ ?_
 .unfold uQ;refine(dL (LV c.OF c.OH)).trans ?_
  refine(dL P).trans rfl
 have B:∀i,fv p.ao p.aa2.af p.au.aa0 u d r m o p.bw p.bq i f->Ok ((ra LC ⟨dR p i f,j⟩).bind λM=>bif (!M) then c5 (nJ ⟨dR p i f,j⟩ h d a (min a.To p.au.aa0)) else(mT LC ⟨dR p i f,j⟩).bind λI=>(uQ LC h d a (min a.To p.au.aa0) (ak.mk I.1 I.2) f).bind λk=>
  let E:=Gy k
  let C:=Ib k
  let D:=HF k
  let J:=I2 k
  let N:=Ir k
  let R:=JK k
  bif c3 (R=0) then c5 (nJ (aR.mk ({ (dR p i f) with bq:=N}:aE) j) E C D J) else c5 (nJ ⟨dR p i f,j⟩ E C D J)) λA=>∃t l,A=nJ ⟨dR p t l,j⟩ h d a (min a.To p.au.aa0)/\fv p.ao p.aa2.af p.au.aa0 u d r m o p.bw p.bq t l:=λi x=>by
  refine c8 (a:=c3 (0<(f.aA.length:Int))) rfl ?_
  rw[de];refine aV (λH=>?_) (λ_=>ae ⟨i,f,rfl,x⟩)
  have O:f.aA≠[]:=λs=>by rw[s] at H;simp at H
  refine aD (CF (g:=⟨dR p i f,j⟩) c.gq c.jY (by show p.aa2.af.length<=_;have:=c.OG;omega)) λz w=>?_
  have w:ki p.ao p.aa2.af ⟨z.1,z.2⟩:=w;have Z:z.1.length=p.ao.ai.length:=congrArg hL w.pl;obtain⟨v,V,T⟩:=Sj ⟨z.1,z.2⟩ f h d.ai a.an (min a.To p.au.aa0) ((d.dY+1)*d.dX) (L.pR c.n3 c.mq) c.BV (by show z.1.length<=4611686018427387904;omega);refine c8 (a:=Ft h d a (min a.To p.au.aa0) v.1 v.2) ?_ ?_
  .unfold uQ;refine(dL (LV c.OF c.OH)).trans ?_
   refine(dL V).trans rfl
  show Ok (bif c3 (v.2=0) then c5 (nJ ⟨dR p i v.1,j⟩ h d a (min a.To p.au.aa0)) else c5 (nJ ⟨dR p i f,j⟩ h d a (min a.To p.au.aa0))) _
  refine aV (λS=>ae ⟨i,v.1,rfl,?_⟩) (λ_=>ae ⟨i,f,rfl,x⟩)
  exact .Lu h a _ x F G O w (T.resolve_right λc=>c.1 S).2
 by_cases y:q.2=0
 .refine c8 (a:=qI ⟨dR p q.1 f,j⟩) ?_ (B q.1 (.abs h a s F G (Q.resolve_right λc=>c.1 y).2))
  show(bif c3 (q.2=0) then _ else _)=_
  rw[aC y]
  rfl
 .refine c8 (a:=qI ⟨dR p b f,j⟩) ?_ (B b s)
  show(bif c3 (q.2=0) then _ else _)=_
  rw[aG y]
def aa6{rs c:aS}{r:aT}{d:Nat}(f:tN n np p c){nm:List Int}{b h:aL}(l:fv p.ao p.aa2.af p.au.aa0 rs c r p.bZ (d:Int) p.bw p.bq b h){j:Int}(y:j∉r.aw)(u:p.au.aQ[d]?=c5 c)(x:∀c,c∈p.au.aQ->0<=c.cR/\c.cR<=60)(D:∀r,r∈p.bZ->Fit r.aw):Ok (Eb LC ⟨dR p b h,nm⟩ (d:Int) j) λv=>∃k g,v=mf ⟨dR p k g,nm⟩/\fv p.ao p.aa2.af p.au.aa0 rs c r p.bZ (d:Int) p.bw p.bq k g:=by
 unfold Eb;show Ok ((aj p.au.aQ (d:Int)).bind _) _
 rw[bn,u,aa];show Ok ((xp LC p.au.aQ (d:Int) j p.bZ).bind _) _
 refine aD (ag3 (rs:=p.au.aQ) (d:Int) j p.bZ x D) λq t=>?_
 have C:(bif c3 (q.2≠0) then c5 true else c5 (c3 ((q.1.length:Int)=0)):Option Bool)=c5 (c3 (q.2≠0\/(q.1.length:Int)=0)):=ew rfl;refine c8 C ?_
 refine aV (λ_=>ae ⟨b,h,rfl,l⟩) (λm=>?_)
 have w:q.2=0:=by by_cases f:q.2=0;exact f;exact absurd (.inl f) m
 have E:q.1.length≠0:=λf=>m (.inr (by omega))
 obtain⟨_,F,i,B⟩:=t.2 w;rw[e5,u] at i;injection i with i
 subst i;have G:=t.1;rw[aJ,show((q.1.length:Int) -1)=((q.1.length -1:Nat):Int) by omega,bn];have s:=c4 (show q.1.length -1<q.1.length by omega);have o:=dv (show q.1.length -1<q.1.length by omega);generalize q.1[q.1.length -1]=a at s o;rw[s,aa];refine c8 (a:=p.au.aa0) rfl ?_
 refine aV (λ_=>ae ⟨b,h,rfl,l⟩) (λ_=>?_)
 refine aD (afb f l y (B a o)) λv z=>?_
 obtain⟨k,g,rfl,A⟩:=z;exact ae ⟨k,g,rfl,A⟩
end
section
variable {n np:Nat}{p:aE}{e:bH}
def am8{j f:aS}{r:aT}{k:Nat}(t:tN n np p f)(c:List dS×Int)(y:c.1.length<=20)(x:∀a,a∈c.1->DS r j a):Ok (bO (λa:ug=>sC LC c (Q2 a) (Qd a) (R9 a)) (Cb ⟨p,[]⟩ f 0)) λs=>∃g d,s=mf ⟨dR p g d,[]⟩/\fv p.ao p.aa2.af p.au.aa0 j f r p.bZ (k:Int) p.bw p.bq g d:=by
 refine di c.1.length (λi a=>∃g d,a=Cb ⟨dR p g d,[]⟩ f (i:Int)/\fv p.ao p.aa2.af p.au.aa0 j f r p.bZ (k:Int) p.bw p.bq g d) _ (λi a o h=>?_) (λa h=>?_) _ ⟨p.bw,p.bq,rfl,.nil⟩
 .obtain⟨b,a,rfl,l⟩:=h;show Ok (sC LC c ⟨dR p b a,[]⟩ f (i:Int)) _
  unfold sC;have q:=c4 o;have m:=dv o;generalize c.1[i]=w at q m;rw[aC,bn,q,aa,aa];refine aD (aiU t l (x w m)) λs v=>?_
  obtain⟨g,d,rfl,u⟩:=v;rw[aJ];exact ae ⟨g,d,rfl,u⟩
 .obtain⟨b,a,rfl,l⟩:=h;show Ok (sC LC c ⟨dR p b a,[]⟩ f (c.1.length:Int)) _
  unfold sC;rw[aG];exact ae ⟨b,a,rfl,l⟩
def acB{l g:aS}{r:aT}{k:Nat}(B:tN n np p g)(j:List Int)(I:j.length<=1000){v q:aL}(C:fv p.ao p.aa2.af p.au.aa0 l g r p.bZ (k:Int) p.bw p.bq v q)(A:p.au.aQ[k]?=c5 g)(z:∀g,g∈p.au.aQ->0<=g.cR/\g.cR<=60)(H:∀r,r∈p.bZ->Fit r.aw)(y:Fit r.aw)(D:e.A=(k:Int)):Ok (bO (λf:uy=>uN LC j (r,0) e (Si f) (LF f)) (uZ ⟨dR p v q,[]⟩ 0)) λh=>∃c d,h=mf ⟨dR p c d,[]⟩/\fv p.ao p.aa2.af p.au.aa0 l g r p.bZ (k:Int) p.bw p.bq c d:=by
 refine di j.length (λi f=>∃c d,f=uZ ⟨dR p c d,[]⟩ (i:Int)/\fv p.ao p.aa2.af p.au.aa0 l g r p.bZ (k:Int) p.bw p.bq c d) _ (λi f G s=>?_) (λf s=>?_) _ ⟨v,q,rfl,C⟩
 .obtain⟨b,f,rfl,m⟩:=s;show Ok (uN LC j (r,0) e ⟨dR p b f,[]⟩ (i:Int)) _
  unfold uN;dsimp only;have x:=c4 G;generalize j[i]=E at x;rw[aC,bn,x,aa,contains_eq y,aa,de];have fin:∀c d,fv p.ao p.aa2.af p.au.aa0 l g r p.bZ (k:Int) p.bw p.bq c d->Ok (c5 (ei (uZ ⟨dR p c d,[]⟩ (IntKind.i64.wrap ((i:Int)+1)))):Option (uy⊕rY)) λh=>match h with
   | .inl d=>∃c w,d=uZ ⟨dR p c w,[]⟩ ((i+1:Nat):Int)/\fv p.ao p.aa2.af p.au.aa0 l g r p.bZ (k:Int) p.bw p.bq c w
   | .inr h=>∃c d,h=mf ⟨dR p c d,[]⟩/\fv p.ao p.aa2.af p.au.aa0 l g r p.bZ (k:Int) p.bw p.bq c d:=λc d t=>by
   rw[aJ];exact ae ⟨c,d,rfl,t⟩
  by_cases u:E∈r.aw
  .rw[aC u,aa];exact WI (fin b f m) λh o=>by cases h <;> exact o
  .rw[aG u,D];obtain⟨h,F,c,d,rfl,t⟩:=aa6 (nm:=[]) B m u A z H;refine c8 (a:=mf ⟨dR p c d,[]⟩) ?_ ?_
   .exact(dL F).trans rfl
   .exact WI (fin c d t) λh o=>by cases h <;> exact o
 .obtain⟨b,f,rfl,m⟩:=s;show Ok (uN LC j (r,0) e ⟨dR p b f,[]⟩ (j.length:Int)) _
  unfold uN;rw[aG];exact ae ⟨b,f,rfl,m⟩
def aoV(a:dW n np p)(o:fw p.au)(af:e.abv=4):Ok (wP LC ⟨p,[]⟩ e) λD=>∃g N,D=dp g N/\gi p e g N:=by
 have m:=a.lC;have W:=a.n3;have al:=a.kn;have aw:=a.jR;have ao:p.au.cn.length=p.au.aQ.length:=o.2.2.2.2.2.1;unfold wP;dsimp only;rw[aJ,cF,aa,de];refine aV (λap=>?_) (λ_=>ae ⟨_,_,rfl,.same a (by decide)⟩)
 obtain⟨k,v⟩:∃k:Nat,e.A=(k:Int):=⟨e.A.toNat,by omega⟩;have O:k<p.cq.length:=by omega
 rw[v,bn,bn,e5];have C:=c4 (show k<p.au.cn.length by omega);generalize p.au.cn[k]=num at C;have B:=c4 O;have G:=dv O;generalize p.cq[k]=r at B G;have t:=c4 (show k<p.au.aQ.length by omega);have L:=dv (show k<p.au.aQ.length by omega);generalize p.au.aQ[k]=b at t L;have am:=a.rX r G;have f:Fit r.aw:=by show _<=4611686018427387904;omega
 rw[C,aa];refine aV (λ_=>ae ⟨_,_,rfl,.same a (by decide)⟩) (λav=>?_)
 rw[B,aa,aa,WJ f]
 by_cases s:kb r
 rotate_left
 .rw[if_neg s,aa];exact ae ⟨_,_,rfl,.same a (by decide)⟩
 rw[if_pos s,aa,aG (by simp)];rw[anb s,aa,aG (by simp)];dsimp only;obtain⟨i,Y,J⟩:=abN (x:=p.cW) (r:=r) m.il m.io f;rw[Y,aa];refine aV (λc=>ae ⟨_,_,rfl,.bad a c rfl⟩) (λc=>?_)
 have au:=a.uB;rw[dm (by decide) (by omega),aa];have an:(p.bZ++[r]).length=p.bZ.length+1:=by simp
 rw[aJ,l8 (by omega) (by omega) (by omega),aa];generalize ah:max 0 (((p.bZ++[r]).length:Int) -60)=h;have Z:((p.bZ++[r]).drop h.toNat).take ((((p.bZ++[r]).length:Int)).toNat -h.toNat)=(p.bZ++[r]).drop h.toNat:=List.take_of_length_le (by rw[hD];omega);rw[Z];have I:∀b,b∈p.au.aQ->0<=b.cR/\b.cR<=60:=λb ab=>(o.1.2.2 b ab).2.2.2.2
 obtain⟨D,ag,K⟩:=Xo (l:=p.au.aQ) (r:=r) f I;rw[ag,aa];refine aV (λc=>ae ⟨_,_,rfl,.bad a c rfl⟩) (λc=>?_)
 obtain⟨_,X,T,ac⟩:=K.2 (Decidable.not_not.1 c);rw[bn,t,aa];have y:=o.1.2.2 b L;have ax:=o.1.1.1;have M:tN n np ({p with bZ:=(p.bZ++[r]).drop h.toNat,cW:=i.1}:aE) b:=⟨W.2,a.mq,a.gq,a.gk,a.jY,by have:=a.key.1.1;show p.aa2.af.length<=12;omega,a.hZ,a.bne,a.je,by have:=y.2.1.len (by omega);show b.ai.length<=4611686018427387904;omega,y.2.2.2.1,y.2.2.1⟩;refine aD (am8 (k:=k) M D K.1 ac) λz w=>?_
 obtain⟨j,ar,rfl,H⟩:=w;obtain⟨⟨S,u⟩,ai,ak⟩:=H.shape a.gk a.hZ a.bne a.je;have E:j.aA[0]?=c5 (j.aA[0]'(gy.2 u)):=c4 _;have F:=dv (gy.2 u);generalize j.aA[0]'(gy.2 u)=A at E F;have aq:=(S.mX A F).2;show Ok ((aj j.aA 0).bind λV=>(cc LC V.aw).bind _) _
 rw[show aj j.aA 0=c5 A from E,aa,bV (cX (n:=3) (by omega) (by decide)),aa];refine aD (acB (k:=k) M A.aw (by omega) H t I (λq d=>?_) f v) λz w=>?_
 .have:q∈p.bZ++[r]:=gx d;rcases e4.1 this with d |d
  .have:=a.rW q d;show _<=4611686018427387904;omega
  .rw[dk] at d;rw[d];exact f
 obtain⟨P,Q,rfl,ad⟩:=w;have U:=m.il;have R:=m.io;refine ae ⟨⟨{p with bZ:=(p.bZ++[r]).drop h.toNat,cW:=i.1,bw:=P,bq:=Q},[]⟩,0,rfl,.lP rfl (.JE k X b r num _ i.1 P Q af v C (by omega) B s t T ⟨_,rfl⟩ ?_ ⟨?_,?_⟩ ad)⟩
 .rw[hD];omega
 .show i.1.dl.length<=_;rw[J.1];exact U
 .show i.1.dr.length<=_;rw[J.2.1];exact R
def oP.mD{x:aB}{a:Int}{o:aE}(h:dW n np p)(C:ny x)(A:x.ao=cY p.ao a)(F:x.aN.length=n)(t:x.aQ=p.au.aQ)(B:x.bp.length=x.aQ.length)(D:oP {p with au:=x} a o):dW n np o:=by
 obtain⟨b,s,fl,sm,y,rfl,j,_,w,l,d,c⟩:=D.ex;have u:=uF p.ao a;have E:fM n np b:=h.hZ.renew (m:=cY p.ao a) h.gk l;refine {n3:=h.n3,kN:=C,fN:=A,gq:=w,gk:=h.gk,iz:=F,jR:=by show x.aQ.length<=3;rw[t];exact h.jR,kj:=B,uD:=?_,kI:=h.kI,qx:=h.qx,kn:=by show p.cq.length=x.aQ.length;rw[t];exact h.kn,rX:=h.rX,uB:=h.uB,rW:=h.rW,int:=h.int,hZ:=E,bne:=?_,je:=?_,pq:=?_,key:=h.key,jY:=?_,iI:=h.iI,log:=h.log,uC:=h.uC}
 .show fl.length=(cY p.ao a).af.length
  rw[u];have j:fl.length=p.cI.length:=j;rw[j];exact h.uD
 .show b.aA≠[]
  intro G;have:=l.1;rw[G] at this;exact h.bne (eH.1 this.symm)
 .rcases d with⟨_,d⟩ |⟨_,d,c⟩
  .show fM n np s
   rw[d];exact h.je
  .exact h.je.renew (m:=y) (by rw[d.pl];exact h.gk) c
 .rcases c with⟨c,k⟩ |⟨_,k⟩
  .show sm.an=[]\/sm.an.length=np
   rw[k];exact .inl c
  .exact .inr (by show sm.an.length=np;rw[k];exact h.gk)
 .show cj 0 (((cY p.ao a).af.length:Int) -1) p.aa2.af
  rw[u];exact h.jY
def gC.mD{F:aE}(h:dW n np p)(C:gC p e F):dW n np F:=by
 have ht:=h.kN;cases C with
 |wait _ _ _ _=>exact {h with kN:={ht with pe:=by show(p.au.aN.map _).length<=_;rw[dT];exact ht.pe},fN:=h.fN,iz:=by show(p.au.aN.map _).length=n;rw[dT];exact h.iz,jR:=h.jR,kj:=h.kj,kn:=h.kn}
 |walk K _ _ _ _ _ _ _ _=>exact {h with kN:={ht with pe:=by show(p.au.aN.set _ _).length<=_;rw[dt];exact ht.pe},fN:=h.fN,iz:=by show(p.au.aN.set _ _).length=n;rw[dt];exact h.iz,jR:=h.jR,kj:=h.kj,kn:=h.kn}
 |look k rd aa r _ _ o=>
  obtain⟨row,V,yp,a,t,l,m,B,j,w,D,U,P,u⟩:=o.ex;rw[u];have J:=ht.mr row (fC l);refine {h with kN:={ht with nu:=by show(p.au.cn.set _ _).length<=_;rw[dt];exact ht.nu,lo:=by show(p.au.cf.set _ _).length<=_;rw[dt];exact ht.lo,mi:=by show(p.au.bp.set _ _).length<=_;rw[dt];exact ht.mi,mr:=λq c=>?_},fN:=h.fN,iz:=h.iz,jR:=h.jR,kj:=by show(p.au.bp.set _ _).length=_;rw[dt];exact h.kj,kn:=by show(p.cq.set _ _).length=_;rw[dt];exact h.kn,rX:=λq c=>?_}
  .rcases ej c with c |rfl
   .exact ht.mr q c
   .show _<=_;rw[j.len];exact J
  .rcases ej c with c |rfl
   .exact h.rX q c
   .rw[P,uP];have:=j.tl;have:=h.iz;have:=h.n3;omega
 |JE k rs rd r num C x b s _ _ _ _ Z S _ _ N Q u O=>
  obtain⟨⟨H,G⟩,I,W⟩:=O.shape h.gk h.hZ h.bne h.je;refine {h with uB:=Q,rW:=λq c=>?_,int:=u,hZ:=H,bne:=G,je:=I}
  obtain⟨d,rfl⟩:=N;rcases e4.1 (gx c) with c |c
  .exact h.rW q c
  .rw[dk] at c;have:=S.2.2.2.1;rw[c];omega
 |swap x b s K Y _ _ _ _ _ _ _ _ u y j=>
  rw[u];have E:=h.iz;have A:=h.gk;rw[E,A] at y;have sl:∀{t:List Int},(gL e.A e.B t).length=t.length:=by
   intro t;unfold gL
   split
   .rw[dt,dt]
   .rfl
  refine {h with kN:={ht with tg:=by show(gL _ _ _).length<=_;rw[sl];exact ht.tg,mi:=by show(p.au.bp.map _).length<=_;rw[dT];exact ht.mi,mr:=λq c=>?_},fN:=h.fN,iz:=h.iz,jR:=h.jR,kj:=by show(p.au.bp.map _).length=_;rw[dT];exact h.kj,kn:=h.kn,hZ:=h.hZ.Np y,bne:=?_,je:=?_}
  .obtain⟨L,T,rfl⟩:=hP.1 c;show _<=_;rw[sl];exact ht.mr L T
  .obtain⟨t,l,m,_⟩:=y.ex;exact l.e m
  .rcases j with⟨_,j⟩ |⟨X,_,_,j⟩
   .show fM n np s;rw[j];exact h.je
   .rw[E,A] at j;exact h.je.Np j
 |JD sm al _ j M _=>exact {h with pq:=.inr (by rw[j];exact h.gk),iI:=M.1}
 |guard k _ l m B _ w _ _=>exact {h with key:=w,jY:=by show cj 0 _ k.af;rw[l];exact h.jY}
 |shut k s _ l m B w _ D _ _ j=>
  rw[h.iz,h.gk] at j;exact {h with key:=D,jY:=by show cj 0 _ k.af;rw[l];exact h.jY,je:=h.hZ.shut j}
 |xX st _ _ _=>exact {h with}
 |xZ _ _ R _ _ o=>exact oP.mD (x:={p.au with ao:=cY p.au.ao e.A,aN:=p.au.aN.map (n8 e.A)}) (a:=e.A) h {ht with rd:=by show(cY p.au.ao e.A).af.length<=_;rw[uF];exact ht.rd,pe:=by show(p.au.aN.map _).length<=_;rw[dT];exact ht.pe} (by show cY p.au.ao e.A=_;rw[h.fN]) (by show(p.au.aN.map _).length=n;rw[dT];exact h.iz) rfl h.kj o
 |xY _ al q _ _ _ R _ _ o=>exact oP.mD (x:={p.au with ao:=cY p.au.ao e.A,aN:=p.au.aN.map (n8 e.A)}) (a:=e.A) h {ht with rd:=by show(cY p.au.ao e.A).af.length<=_;rw[uF];exact ht.rd,pe:=by show(p.au.aN.map _).length<=_;rw[dT];exact ht.pe} (by show cY p.au.ao e.A=_;rw[h.fN]) (by show(p.au.aN.map _).length=n;rw[dT];exact h.iz) rfl h.kj o
 |JF k st _ l m _ _ _=>exact {h with key:=m,jY:=by show cj 0 _ k.af;rw[l];exact h.jY,je:=.nil}
end
def gC.log{p c:aE}{e:bH}(h:gC p e c):c.bB=p.bB:=by
 cases h with
 |xZ _ _ _ _ _ a=>obtain⟨b,s,fl,sm,d,rfl,_⟩:=a.ex;rfl
 |xY _ _ _ _ _ _ _ _ _ a=>obtain⟨b,s,fl,sm,d,rfl,_⟩:=a.ex;rfl
 |_=>rfl
inductive oA (p:aE) (e:bH):aE->Int->Prop
 |no (c:Int):c=2\/c=6->oA p e p c
 |bad (al:List cy) (nm:List Int) (c:Int):c≠0->gj p.bS al->nm.length<=768->p.bB.length<200->fw p.au->oA p e {p with bS:=al,bB:=p.bB++[⟨e,p.au.aa0,c,nm⟩]} c
 |zI (q:aE) (nm:List Int):gC p e q->nm.length<=768->p.bB.length<200->fw p.au->oA p e {q with bB:=p.bB++[⟨e,p.au.aa0,0,nm⟩]} 0
def acG{a:Int}(b:1<=a/\a<=13):lK a=c5 (102+a.toNat):=by
 unfold lK;rw[aC b.1,aC b.2]
def akh{a:Int}(c:¬(1<=a/\a<=13)):lK a=hK:=by
 unfold lK
 by_cases b:1<=a
 .rw[aC b,aG (λd=>c ⟨b,d⟩)]
 .rw[aG b]
def J6(p:aE)(a:bH):Prop:=a.abv=3->0<=a.A/\a.A<max 1 (p.au.aQ.length:Int)
def Wq{z A:Nat}{p:aE}{d:bH}(j:dW z A p)(w:J6 p d):Ok (w7 LC p d) λr=>oA p d r.1 r.2:=by
 have u:=j.lC;unfold w7;refine aV (λ_=>ae (.no 2 (.inl rfl))) (λD=>?_)
 obtain⟨v,C,B⟩:=U4 j;rw[C,aa];cases v with
 |false=>exact ae (.no 6 (.inr rfl))
 |true=>
  have n:=B rfl;rw[eo,cond_false,aiT u,aa];dsimp only;rw[show SD (IW p)=p from rfl];refine c8 (a:=lK d.abv) rfl ?_
  have k:∀{q:Option qz},Ok q (λb=>∃g c,b=dp g c/\gi p d g c)->Ok (q.bind λb=>c5 (dp (iS b) (iJ b))) λb=>∃g c,b=dp g c/\gi p d g c:=λ{q} j=>aD j λb i=>by
   obtain⟨g,c,rfl,f⟩:=i;exact ae ⟨g,c,rfl,f⟩
  refine aD (Q:=λb:qz=>∃g c,b=dp g c/\gi p d g c) ?_ λb i=>?_
  .by_cases h:1<=d.abv/\d.abv<=13
   rotate_left
   .rw[akh h];exact ae ⟨⟨p,[]⟩,55,rfl,.same j (by decide)⟩
   rw[acG h];have:d.abv=1\/d.abv=2\/d.abv=3\/d.abv=4\/d.abv=5\/d.abv=6\/d.abv=7\/d.abv=8\/d.abv=9\/d.abv=10\/d.abv=11\/d.abv=12\/d.abv=13:=by omega
   rcases this with h |h |h |h |h |h |h |h |h |h |h |h |h <;> rw[h]
   .show Ok (((xR LC (aR.mk p ([]:List Int)) d).bind λe=>c5 (dp (fR e) (fT e))).bind λb=>c5 (dp (iS b) (iJ b))) _
    exact k (aD (Wo j h) λb i=>by obtain⟨g,c,rfl,f⟩:=i;exact ae ⟨g,c,rfl,f⟩)
   .show Ok (((yV LC (aR.mk p ([]:List Int)) d).bind λe=>c5 (dp (fR e) (fT e))).bind λb=>c5 (dp (iS b) (iJ b))) _
    exact k (aD (aku j h) λb i=>by obtain⟨g,c,rfl,f⟩:=i;exact ae ⟨g,c,rfl,f⟩)
   .show Ok (((yT LC (aR.mk p ([]:List Int)) d).bind λe=>c5 (dp (fR e) (fT e))).bind λb=>c5 (dp (iS b) (iJ b))) _
    exact k (aD (anv j h (w h).1 (w h).2) λb i=>by obtain⟨g,c,rfl,f⟩:=i;exact ae ⟨g,c,rfl,f⟩)
   .show Ok (((wP LC (aR.mk p ([]:List Int)) d).bind λe=>c5 (dp (iS e) (iJ e))).bind λb=>c5 (dp (iS b) (iJ b))) _
    exact k (aD (aoV j n h) λb i=>by obtain⟨g,c,rfl,f⟩:=i;exact ae ⟨g,c,rfl,f⟩)
   .show Ok (((yb LC (aR.mk p ([]:List Int)) d).bind λe=>c5 (dp (fR e) (fT e))).bind λb=>c5 (dp (iS b) (iJ b))) _
    exact k (aD (amp j h) λb i=>by obtain⟨g,c,rfl,f⟩:=i;exact ae ⟨g,c,rfl,f⟩)
   .show Ok (((xy LC (aR.mk p ([]:List Int)) d).bind λe=>c5 (dp (fR e) (fT e))).bind λb=>c5 (dp (iS b) (iJ b))) _
    exact k (aD (aiX j h) λb i=>by obtain⟨g,c,rfl,f⟩:=i;exact ae ⟨g,c,rfl,f⟩)
   .show Ok (((vA LC (aR.mk p ([]:List Int)) d).bind λe=>c5 (dp (fR e) (fT e))).bind λb=>c5 (dp (iS b) (iJ b))) _
    exact k (aD (anG j h) λb i=>by obtain⟨g,c,rfl,f⟩:=i;exact ae ⟨g,c,rfl,f⟩)
   .show Ok (((vm LC (aR.mk p ([]:List Int)) d).bind λe=>c5 (dp (fR e) (fT e))).bind λb=>c5 (dp (iS b) (iJ b))) _
    exact k (aD (Zi j h) λb i=>by obtain⟨g,c,rfl,f⟩:=i;exact ae ⟨g,c,rfl,f⟩)
   .show Ok (((wR LC (aR.mk p ([]:List Int)) d).bind λe=>c5 (dp (fR e) (fT e))).bind λb=>c5 (dp (iS b) (iJ b))) _
    exact k (aD (amE j h) λb i=>by obtain⟨g,c,rfl,f⟩:=i;exact ae ⟨g,c,rfl,f⟩)
   .show Ok (((yu LC (aR.mk p ([]:List Int)) d).bind λe=>c5 (dp (fR e) (fT e))).bind λb=>c5 (dp (iS b) (iJ b))) _
    exact k (aD (aeC j h) λb i=>by obtain⟨g,c,rfl,f⟩:=i;exact ae ⟨g,c,rfl,f⟩)
   .show Ok (((tM LC (aR.mk p ([]:List Int)) d).bind λe=>c5 (dp (fR e) (fT e))).bind λb=>c5 (dp (iS b) (iJ b))) _
    exact k (aD (agT j h) λb i=>by obtain⟨g,c,rfl,f⟩:=i;exact ae ⟨g,c,rfl,f⟩)
   .show Ok (((xQ LC (aR.mk p ([]:List Int)) d).bind λe=>c5 (dp (fR e) (fT e))).bind λb=>c5 (dp (iS b) (iJ b))) _
    exact k (aD (af5 j n h) λb i=>by obtain⟨g,c,rfl,f⟩:=i;exact ae ⟨g,c,rfl,f⟩)
   .show Ok (((xE LC (aR.mk p ([]:List Int)) d).bind λe=>c5 (dp (fR e) (fT e))).bind λb=>c5 (dp (iS b) (iJ b))) _
    exact k (aD (YJ j h) λb i=>by obtain⟨g,c,rfl,f⟩:=i;exact ae ⟨g,c,rfl,f⟩)
  .obtain⟨g,c,rfl,f⟩:=i;rw[show iS (dp g c)=g from rfl,show iJ (dp g c)=c from rfl];have s:p.bB.length<200:=by omega
   by_cases l:c=0
   .rw[aG (by rw[l];simp),aa];show Ok ((bj 72 g.aI.bB ([(dK.mk d p.au.aa0 c g.named)]:List dK)).bind λo=>c5 (({g.aI with bB:=o}:aE),c)) _
    have t:=f.ok l;rw[t.log,dm (by decide) (by omega),aa,l];exact ae (.zI g.aI g.named t f.nm s n)
   .rw[aC l,abE u,aa];have fin:∀m,gj p.bS m->Ok ((bj 72 p.bB ([(dK.mk d p.au.aa0 c g.named)]:List dK)).bind λo=>c5 (({p with bS:=m,bB:=o}:aE),c)) λr=>oA p d r.1 r.2:=λm y=>by
     rw[dm (by decide) (by omega),aa];exact ae (.bad m g.named c l y f.nm s n)
    by_cases x:c=46
    .refine c8 (a:=lR {p with bS:=g.aI.bS}) ?_ (fin _ (f.iI l))
     rw[aC x,aa]
     rfl
    .refine c8 (a:=lR p) ?_ (fin p.bS (gj.refl j.iI))
     rw[aG x,aa]
     rfl
def oA.mD{n np:Nat}{p l:aE}{e:bH}{c:Int}(h:dW n np p)(w:oA p e l c):dW n np l:=by
 have lg:∀{q:aE} {x:dK},dW n np q->p.bB.length<200->x.ll.length<=768->dW n np {q with bB:=p.bB++[x]}:=by
  intro q x u y o;have a1:(p.bB++[x]).length<=200:=by rw[ev];simp;omega
  have t:∀d,d∈p.bB++[x]->d.ll.length<=768:=by
   intro d a;rcases e4.1 a with a |a
   .exact h.uC d a
   .rw[dk] at a;rw[a];exact o
  exact {u with log:=a1,uC:=t}
 cases w with
 |no c _=>exact h
 |bad al nm c _ s k j _=>exact lg (q:={p with bS:=al}) {h with iI:=s.1} j k
 |zI q nm m k j _=>exact lg (m.mD h) j k
def DI(l:List Int)(b:List Int)(a:Int):Prop:=b=l/\0<=a/\a<=400
def DI.init{l:List Int}:DI l l 0:=⟨rfl,c7 _,by decide⟩
section
variable {l:List Int}
def lW(m:l.length<=400){d:bD}(g:DI l d.L d.At)(n:Int)(o:n<=1000000):Ok (eO LC d n) λr=>DI l r.1 r.2.1/\0<=r.2.2/\(r.2.2<n\/r.2.2=0):=by
 obtain⟨a,b,e⟩:=g;unfold eO;refine aV (λ_=>ae ⟨⟨a,b,e⟩,c7 _,.inr rfl⟩) (λi=>?_)
 rw[a] at i⊢;rw[aJ (n:=d.At+1),show d.At+1 -1=d.At by omega,aJ,jF 0 b (by omega),aa];generalize l.getD d.At.toNat 0=c;refine aD (Q:=λr:Int=>0<=r/\(r<n\/r=0)) ?_ λr j=>ae ⟨⟨rfl,by dsimp only;omega,by dsimp only;omega⟩,j⟩
 unfold Ie;refine aV (λ_=>ae ⟨c7 _,.inr rfl⟩) (λk=>?_)
 rw[D7 (by omega),aa];have f:=Int.tmod_lt_of_pos c (show 0<n by omega);have p:=Int.lt_tmod_of_pos c (show 0<n by omega);refine aV (λh=>?_) (λh=>ae ⟨by omega,.inl f⟩)
 rw[aJ];exact ae ⟨by omega,.inl (by omega)⟩
def ir(e:l.length<=400){d:bD}(c:DI l d.L d.At)(a:Int)(g:1<=a)(f:a<=1000000):Ok (eO LC d a) λr=>DI l r.1 r.2.1/\0<=r.2.2/\r.2.2<a:=WI (lW e c a f) λr b=>⟨b.1,b.2.1,by have:=b.2.2;omega⟩
def p9(e:l.length<=400){d:bD}(b:DI l d.L d.At)(a:Int)(f:a<=1000000):Ok (mK LC d a) λr=>DI l r.1 r.2.1:=by
 unfold mK;exact aD (lW e b a f) λr c=>ae c.1
def iM(g:l.length<=400){d:bD}(e:DI l d.L d.At)(vs:List Int)(h:1<=vs.length)(i:vs.length<=1000):Ok (gQ LC d vs) λr=>DI l r.1 r.2.1/\r.2.2∈vs:=by
 unfold gQ;refine aD (ir g e (vs.length:Int) (by omega) (by omega)) λr b=>?_
 have c:vs[r.2.2.toNat]?=c5 (vs[r.2.2.toNat]'(by omega)):=c4 _;have a:vs[r.2.2.toNat]'(by omega)∈vs:=dv _;generalize vs[r.2.2.toNat]'(by omega)=f at c a;rw[show aj vs r.2.2=c5 f by unfold aj;rw[if_pos b.2.1];exact c,aa];exact ae ⟨b.1,a⟩
def adN(t:l.length<=400)(m:Nat)(B:m<=7){w:List Int}{k:Int}(A:DI l w k):Ok (bO (λa:List Int×Int×List bP×List aZ×Int=>Bt LC (m:Int) (bD.mk a.1 a.2.1) (ak.mk a.2.2.1 a.2.2.2.1) a.2.2.2.2) (w,k,[],[],0)) λc=>DI l c.1 c.2.1/\c.2.2.1.length=m/\(∀p,p∈c.2.2.1->-100<=p.eU/\p.eU<=0)/\c.2.2.2=[]:=by
 refine di m (λi a=>a.2.2.2.2=(i:Int)/\DI l a.1 a.2.1/\a.2.2.1.length=i/\(∀p,p∈a.2.2.1->-100<=p.eU/\p.eU<=0)/\a.2.2.2.1=[]) _ (λi a C o=>?_) (λa o=>?_) _ ⟨rfl,A,rfl,(λp e=>by cases e),rfl⟩
 .obtain⟨b,k,u,y,x⟩:=a;obtain⟨rfl,j,f,h,g⟩:=o;dsimp only at j f h g⊢;unfold Bt
  try dsimp only
  rw[aC];refine aD (Q:=λc:List Int×Int×List bP=>DI l c.1 c.2.1/\c.2.2.length=i+1/\∀p,p∈c.2.2->-100<=p.eU/\p.eU<=0) ?_ λc n=>?_
  .refine aD (ir t j 4 (by decide) (by decide)) λr s=>?_
   have v:∀b:Bool,∀p,p∈u++[bP.mk (IntKind.i64.wrap ((-10)*r.2.2)) b]->-100<=p.eU/\p.eU<=0:=λb p e=>by
    rcases e4.1 e with e |e
    .exact h p e
    .rw[dk] at e;rw[e,aJ];dsimp only;omega
   refine aV (λ_=>?_) (λ_=>?_)
   .rw[dm (by decide) (by omega),aa];exact ae ⟨s.1,by simp[f],v _⟩
   .refine aD (p9 t (d:=⟨r.1,r.2.1⟩) s.1 6 (by decide)) λq z=>?_
    rw[dm (by decide) (by omega),aa];exact ae ⟨z,by simp[f],v _⟩
  .rw[aJ];exact ae ⟨rfl,n.1,n.2.1,n.2.2,g⟩
 .obtain⟨b,k,u,y,x⟩:=a;obtain⟨rfl,j,f,h,g⟩:=o;dsimp only at j f h g⊢;unfold Bt
  try dsimp only
  rw[aG];exact ae ⟨j,f,h,g⟩
def Mv{c:Nat}{d:List aZ}{r:aZ}(e:∀r,r∈d->jx c r)(f:jx c r):∀b,b∈d++[r]->jx c b:=λb a=>by
 rcases e4.1 a with a |a
 .exact e b a
 .rw[dk] at a;rw[a];exact f
def adQ(k:l.length<=400)(n:Nat)(A:2<=n/\n<=7){s:List Int}{j:Int}{ps:List bP}(z:DI l s j):Ok (bO (λa:List Int×Int×List bP×List aZ×Int=>By LC (n:Int) (bD.mk a.1 a.2.1) (ak.mk a.2.2.1 a.2.2.2.1) a.2.2.2.2) (s,j,ps,[],1)) λh=>DI l h.1 h.2.1/\h.2.2.1=ps/\h.2.2.2.length=n -1/\∀r,r∈h.2.2.2->jx n r:=by
 refine di (n -1) (λi a=>a.2.2.2.2=((i+1:Nat):Int)/\DI l a.1 a.2.1/\a.2.2.1=ps/\a.2.2.2.1.length=i/\∀r,r∈a.2.2.2.1->jx n r) _ (λi a C m=>?_) (λa m=>?_) _ ⟨rfl,z,rfl,rfl,λp y=>by cases y⟩
 .obtain⟨b,j,x,w,u⟩:=a;obtain⟨rfl,f,rfl,e,c⟩:=m;dsimp only at f e c⊢;unfold By
  try dsimp only
  rw[aC];refine aD (ir k f (min ((i+1:Nat):Int) 2) (by omega) (by omega)) λr v=>?_
  refine aD (iM k (d:=⟨r.1,r.2.1⟩) v.1 [11,59,119,4] (by decide) (by decide)) λg t=>?_
  refine aD (iM k (d:=⟨g.1,g.2.1⟩) t.1 [9,3,19] (by decide) (by decide)) λo q=>?_
  have B:4<=g.2.2/\g.2.2<=119:=by have:=t.2;simp at this;omega
  have D:3<=o.2.2/\o.2.2<=19:=by have:=q.2;simp at this;omega
  rw[dm (by decide) (by omega),aa,aJ (n:=((i+1:Nat):Int) -1) (by omega) (by omega),aJ (n:=((i+1:Nat):Int) -1 -r.2.2) (by omega) (by omega),aJ (n:=1+g.2.2),aJ (n:=1+o.2.2),aJ];refine ae ⟨by dsimp only;omega,q.1,rfl,by simp[e],Mv c ⟨?_,?_,?_,?_⟩⟩
  .dsimp only;omega
  .dsimp only;omega
  .dsimp only;omega
  .dsimp only;omega
 .obtain⟨b,j,x,w,u⟩:=a;obtain⟨rfl,f,rfl,e,c⟩:=m;dsimp only at f e c⊢;unfold By
  try dsimp only
  rw[aG];exact ae ⟨f,rfl,e,c⟩
def Wc(e:l.length<=400)(n:Nat)(I:2<=n/\n<=7){u:List Int}{o:Int}{ps:List bP}{rs:List aZ}{h:Int}(A:DI l u o)(F:0<=h/\h<=1000)(k:1<=rs.length/\rs.length<=10)(C:∀r,r∈rs->jx n r):Ok (bO (λa:List Int×Int×List bP×List aZ×Int=>HR LC (n:Int) (bD.mk a.1 a.2.1) (ak.mk a.2.2.1 a.2.2.2.1) a.2.2.2.2) (u,o,ps,rs,h)) λc=>DI l c.1 c.2.1/\c.2.2.1=ps/\(1<=c.2.2.2.length/\c.2.2.2.length<=10)/\∀r,r∈c.2.2.2->jx n r:=by
 refine oa (λa=>(0<=a.2.2.2.2/\a.2.2.2.2<=h)/\DI l a.1 a.2.1/\a.2.2.1=ps/\(1<=a.2.2.2.1.length/\a.2.2.2.1.length<=10)/\∀r,r∈a.2.2.2.1->jx n r) (λa=>a.2.2.2.2.toNat) _ (λa B=>?_) _ ⟨⟨F.1,c7 _⟩,A,rfl,k,C⟩
 obtain⟨b,o,y,rs,i⟩:=a;obtain⟨h0,p,rfl,m,j⟩:=B;dsimp only at h0 p m j⊢;unfold HR
 try dsimp only
 have D:(bif c3 (0<i) then c5 (c3 ((rs.length:Int)<10)) else c5 false)=c5 (c3 (0<i/\(rs.length:Int)<10)):=fm rfl;refine c8 D ?_
 refine aV (λH=>?_) (λ_=>ae ⟨p,rfl,m,j⟩)
 refine aD (ir e p (n:Int) (by omega) (by omega)) λr k=>?_
 refine aD (ir e (d:=⟨r.1,r.2.1⟩) k.1 (n:Int) (by omega) (by omega)) λw x=>?_
 refine aD (iM e (d:=⟨w.1,w.2.1⟩) x.1 [11,59,199] (by decide) (by decide)) λg v=>?_
 refine aD (iM e (d:=⟨g.1,g.2.1⟩) v.1 [9,3] (by decide) (by decide)) λf q=>?_
 refine aD (ir e (d:=⟨f.1,f.2.1⟩) q.1 5 (by decide) (by decide)) λs z=>?_
 refine aD (p9 e (d:=⟨s.1,s.2.1⟩) z.1 6 (by decide)) λK E=>?_
 have J:11<=g.2.2/\g.2.2<=199:=by have:=v.2;simp at this;omega
 have L:3<=f.2.2/\f.2.2<=9:=by have:=q.2;simp at this;omega
 refine aD (Q:=λc:List bP×List aZ=>c.1=y/\(1<=c.2.length/\c.2.length<=10)/\∀r,r∈c.2->jx n r) ?_ λc t=>?_
 .refine aV (λG=>?_) (λ_=>ae ⟨rfl,m,j⟩)
  rw[dm (by decide) (by omega),aa,aJ (n:=1+g.2.2),aJ (n:=1+f.2.2)];refine ae ⟨rfl,by simp;omega,Mv j ⟨?_,?_,?_,?_⟩⟩
  .dsimp only;omega
  .dsimp only;omega
  .dsimp only;omega
  .dsimp only;omega
 .rw[aJ];exact ae ⟨⟨by dsimp only;omega,E,t.1,t.2⟩,by dsimp only;omega⟩
structure CJ (m:ak):Prop where
 ok:cP m
 np:2<=m.ai.length/\m.ai.length<=7
 nr:1<=m.af.length/\m.af.length<=10
def amM(c:l.length<=400)(v:DI l l 0):Ok (zN LC ⟨l,0⟩) λr=>DI l r.1 r.2.1/\CJ r.2.2:=by
 unfold zN;refine aD (ir c (d:=⟨l,0⟩) v 6 (by decide) (by decide)) λr s=>?_
 refine aD (Q:=λf:Int=>2<=f/\f<=7) ?_ λf x=>?_
 .refine aV (λ_=>ae (by decide)) (λ_=>?_)
  rw[aJ];exact ae (by omega)
 obtain⟨b,rfl⟩:∃b:Nat,f=(b:Int):=⟨f.toNat,by omega⟩;refine aD (adN c b (by omega) s.1) λk h=>?_
 have n:k.2.2.2=[]:=h.2.2.2;rw[n];refine aD (adQ c b (by omega) (ps:=k.2.2.1) h.1) λj g=>?_
 refine aD (ir c (d:=⟨j.1,j.2.1⟩) g.1 4 (by decide) (by decide)) λw u=>?_
 refine aD (Wc c b (by omega) (ps:=j.2.2.1) (rs:=j.2.2.2) u.1 (by omega) (by have:=g.2.2.1;omega) g.2.2.2) λa e=>?_
 have m:a.2.2.1=k.2.2.1:=e.2.1.trans g.2.1;have o:a.2.2.1.length=b:=by rw[m];exact h.2.1
 refine ae ⟨e.1,⟨by show a.2.2.1.length<=64;omega,by show a.2.2.2.length<=128;have:=e.2.2.1;omega,λp i=>?_,λq t=>?_⟩,by show 2<=a.2.2.1.length/\a.2.2.1.length<=7;omega,e.2.2.1⟩
 .have i:p∈a.2.2.1:=i;rw[m] at i;have:=h.2.2.1 p i;omega
 .show jx a.2.2.1.length q
  rw[o];exact e.2.2.2 q t
def apv(w:l.length<=400)(g:Nat)(A:g<=64){d:bD}(y:DI l d.L d.At):Ok (A9 LC d (g:Int)) λr=>DI l r.1 r.2.1/\cj 0 ((g:Int) -1) r.2.2:=by
 unfold A9;refine aD (Q:=λe:List Int×Int×List Int=>DI l e.1 e.2.1/\cj 0 ((g:Int) -1) e.2.2) ?_ λe m=>ae m
 refine di g (λi c=>c.2.2.2=(i:Int)/\DI l c.1 c.2.1/\c.2.2.1.length<=i/\cj 0 ((i:Int) -1) c.2.2.1) _ (λi c B o=>?_) (λc o=>?_) _ ⟨rfl,y,gb _,cj.nil⟩
 .obtain⟨b,t,a,u⟩:=c;obtain⟨rfl,h,k,f⟩:=o;dsimp only at h k f⊢;unfold HH
  try dsimp only
  rw[aC];refine aD (ir w (d:=⟨b,t⟩) h 3 (by decide) (by decide)) λr v=>?_
  refine aD (Q:=λe:List Int=>e.length<=i+1/\cj 0 (((i+1:Nat):Int) -1) e) ?_ λe m=>?_
  .refine aV (λ_=>?_) (λ_=>ae ⟨by omega,λq n=>?_⟩)
   .rw[dm (by decide) (by omega),aa];refine ae ⟨by simp;omega,λq n=>?_⟩
    simp only[ev,h8] at n
    by_cases s:q<a.length
    .have:=f q s;have p:(a++[(i:Int)]).getD q 0=a.getD q 0:=by rw[c6,e0 s,c6]
     have j:(a++[(i:Int)]).getD (q -1) 0=a.getD (q -1) 0:=by rw[c6,e0 (by omega),c6]
     rw[p,j];exact⟨this.1,by omega,this.2.2⟩
    .have x:q=a.length:=by omega
     have p:(a++[(i:Int)]).getD q 0=(i:Int):=by rw[c6,x,ft (gb _)];simp
     rw[p];refine⟨by omega,by omega,λz=>?_⟩
     have:=f (q -1) (by omega);have j:(a++[(i:Int)]).getD (q -1) 0=a.getD (q -1) 0:=by rw[c6,e0 (by omega),c6]
     rw[j];omega
   .have:=f q n;exact⟨this.1,by omega,this.2.2⟩
  .rw[aJ];exact ae ⟨rfl,v.1,m⟩
 .obtain⟨b,t,a,u⟩:=c;obtain⟨rfl,h,k,f⟩:=o;dsimp only at h k f⊢;unfold HH
  try dsimp only
  rw[aG];exact ae ⟨h,f⟩
def als(h:l.length<=400){e:ak}(I:CJ e){d:bD}(F:DI l d.L d.At):Ok (BX LC d e) λr=>DI l r.1 r.2.1/\r.2.2.length<=3/\∀a,a∈r.2.2->lS e.ai.length a:=by
 have O:=I.np;unfold BX;refine aD (ir h F 4 (by decide) (by decide)) λr A=>?_
 refine aD (Q:=λf:List Int×Int×List aS=>DI l f.1 f.2.1/\f.2.2.length<=3/\∀a,a∈f.2.2->lS e.ai.length a) ?_ λf o=>ae o
 refine oa (λc=>(0<=c.2.2.2/\c.2.2.2+(c.2.2.1.length:Int)<=3)/\DI l c.1 c.2.1/\∀a,a∈c.2.2.1->lS e.ai.length a) (λc=>c.2.2.2.toNat) _ (λc G=>?_) _ ⟨(by simp;omega),A.1,(λa q=>by cases q)⟩
 obtain⟨b,D,B,y⟩:=c;obtain⟨h0,p,m⟩:=G;dsimp only at h0 p m⊢;unfold R2
 try dsimp only
 refine aV (λN=>?_) (λ_=>ae ⟨p,by dsimp only;omega,m⟩)
 refine aD (apv h e.ai.length (by omega) (d:=⟨b,D⟩) p) λx v=>?_
 refine aD (iM h (d:=⟨x.1,x.2.1⟩) v.1 [9,29,4] (by decide) (by decide)) λj t=>?_
 refine aD (ir h (d:=⟨j.1,j.2.1⟩) t.1 3 (by decide) (by decide)) λu E=>?_
 refine aD (iM h (d:=⟨u.1,u.2.1⟩) E.1 [0,1,5] (by decide) (by decide)) λk s=>?_
 have M:4<=j.2.2/\j.2.2<=29:=by have:=t.2;simp at this;omega
 have L:0<=k.2.2/\k.2.2<=5:=by have:=s.2;simp at this;omega
 rw[aJ (n:=1+j.2.2)];refine aD (Q:=λf:xe=>∃g a,f=JB g a/\DI l g.L g.At/\lS e.ai.length a) ?_ λf o=>?_
 .refine aV (λ_=>?_) (λJ=>ae ⟨_,_,rfl,s.1,⟨by dsimp only;omega,v.2,by dsimp only;omega,by dsimp only;omega,by dsimp only;omega⟩⟩)
  refine aD (ir h (d:=⟨k.1,k.2.1⟩) s.1 (e.ai.length:Int) (by omega) (by omega)) λK w=>ae ⟨_,_,rfl,w.1,⟨by simp,cj.one w.2.1 (by omega),by dsimp only;omega,by dsimp only;omega,by dsimp only;omega⟩⟩
 .obtain⟨g,a,rfl,z,q⟩:=o;show Ok ((bj 48 B [a]).bind λC=>c5 (ei (g.L,g.At,C,IntKind.i64.wrap (y -1)))) _
  rw[dm (by decide) (by omega),aa,aJ];refine ae ⟨⟨by simp;omega,z,λH i=>?_⟩,by dsimp only;omega⟩
  rcases e4.1 i with i |i
  .exact m H i
  .rw[dk] at i;rw[i];exact q
def afs(s:l.length<=400){m:ak}(C:CJ m){d:bD}(B:DI l d.L d.At):Ok (Cq LC d m) λr=>DI l r.1 r.2.1/\r.2.2.length=m.af.length/\∀a,a∈r.2.2->ke a:=by
 have F:=C.nr;unfold Cq;refine aD (Q:=λf:List Int×Int×List bI=>DI l f.1 f.2.1/\f.2.2.length=m.af.length/\∀a,a∈f.2.2->ke a) ?_ λf t=>ae t
 refine di m.af.length (λi e=>e.2.2.2=(i:Int)/\DI l e.1 e.2.1/\e.2.2.1.length=i/\∀a,a∈e.2.2.1->ke a) _ (λi e H u=>?_) (λe u=>?_) _ ⟨rfl,B,rfl,λa c=>by cases c⟩
 .obtain⟨b,w,y,A⟩:=e;obtain⟨rfl,q,h,p⟩:=u;dsimp only at q h p⊢;unfold JQ
  try dsimp only
  rw[aC];refine aD (iM s (d:=⟨b,w⟩) q [0,1000,5000,20000,(-5000),(-20000),4999,100] (by decide) (by decide)) λg z=>?_
  refine aD (iM s (d:=⟨g.1,g.2.1⟩) z.1 [0,1,1000,6000] (by decide) (by decide)) λk v=>?_
  refine aD (iM s (d:=⟨k.1,k.2.1⟩) v.1 [0,1,500] (by decide) (by decide)) λj x=>?_
  have G: -20000<=g.2.2/\g.2.2<=20000:=by have:=z.2;simp at this;omega
  have J:0<=k.2.2/\k.2.2<=6000:=by have:=v.2;simp at this;omega
  have E:0<=j.2.2/\j.2.2<=500:=by have:=x.2;simp at this;omega
  rw[aJ (n:=g.2.2 -k.2.2),aJ (n:=g.2.2+j.2.2),dm (by decide) (by omega),aa];refine aD (p9 s (d:=⟨j.1,j.2.1⟩) x.1 9 (by decide)) λI D=>?_
  have c:∀a,a∈y++[bI.mk (g.2.2 -k.2.2) (g.2.2+j.2.2)]->ke a:=λa c=>by
   rcases e4.1 c with c |c
   .exact p a c
   .rw[dk] at c;rw[c];unfold ke;dsimp only;omega
  refine aD (Q:=λf:List bI=>f.length=i+1/\∀a,a∈f->ke a) ?_ λf t=>?_
  .refine dy (λ_=>?_) (λ_=>ae ⟨by simp[h],c⟩)
   rw[jF ⟨0,0⟩ (by omega) (by simp;omega),aa,get_at ⟨0,0⟩ (by omega) (by simp;omega),aa];refine ae ⟨by simp[h],λa o=>?_⟩
   rcases ej o with o |o
   .exact c a o
   .rw[o];unfold ke;dsimp only;omega
  .rw[aJ];exact ae ⟨rfl,D,t⟩
 .obtain⟨b,w,y,A⟩:=e;obtain⟨rfl,q,h,p⟩:=u;dsimp only at q h p⊢;unfold JQ
  try dsimp only
  rw[aG];exact ae ⟨q,h,p⟩
end
def JL{e b f a:Int}{l:List Int}(g:cj e b l)(n:b<a)(k:a<=f)(i:e<=a):cj e f (l++[a]):=λq m=>by
 simp only[ev,h8] at m
 by_cases h:q<l.length
 .have:=g q h;have d:(l++[a]).getD q 0=l.getD q 0:=by rw[c6,e0 h,c6]
  have c:(l++[a]).getD (q -1) 0=l.getD (q -1) 0:=by rw[c6,e0 (by omega),c6]
  rw[d,c];exact⟨this.1,by omega,this.2.2⟩
 .have j:q=l.length:=by omega
  have d:(l++[a]).getD q 0=a:=by rw[c6,j,ft (gb _)];simp
  rw[d];refine⟨i,k,λo=>?_⟩
  have:=g (q -1) (by omega);have c:(l++[a]).getD (q -1) 0=l.getD (q -1) 0:=by rw[c6,e0 (by omega),c6]
  rw[c];omega
def cj.up{a b c d:Int}{e:List Int}(h:cj a b e)(j:c<=a)(k:b<=d):cj c d e:=λi hi=>by
 have:=h i hi;exact⟨by omega,by omega,this.2.2⟩
def PF:∀{a:List Int},a.Pairwise (·<=·)->dQ a=a
 |[],_=>rfl
 |b::a,e=>by
  obtain⟨d,f⟩:=List.pairwise_cons.1 e;show mM b (dQ a)=b::a
  rw[PF f];cases a with
  |nil=>rfl
  |cons c a=>
   show(bif c3 (b<=c) then b::c::a else c::mM b a)=_
   rw[aC (d c (by simp))]
def cj.pw{a b:Int}{c:List Int}(h:cj a b c):c.Pairwise (·<=·):=by
 refine h5.2 λi j hi d e=>?_
 have:=h.lt e d;rw[pu (c4 hi),pu (c4 d)] at this;omega
def cj.bo{a:List Int}(h:cj 1 65535 a):lz a:=by
 unfold lz;rw[PF h.pw];exact h
def has_eq{l:List Int}{x:Int}(h:Fit l):xb LC l x=c5 (c3 (x∈l)):=by
 have r:l.length<=4611686018427387904:=h;have q:=Bb (l:=l) (x:=x) h;have m:Ok (bO (λe=>DG LC l x e) 0) λg=>(g= .inl ()/\x∈l)\/(g= .inr ()/\x∉l):=by
  refine di l.length (λi e=>e=(i:Int)/\∀c,c<i->l[c]? ≠c5 x) _ (λi e d b=>?_) (λe b=>?_) _ ⟨rfl,λc p=>by omega⟩
  .obtain⟨rfl,b⟩:=b;unfold DG;rw[aC,bn,c4 d,aa];refine aV (λa=>ae (.inl ⟨rfl,by rw[<-a];exact dv d⟩)) (λa=>?_)
   rw[aJ];refine ae ⟨rfl,λc p f=>?_⟩
   by_cases j:c=i
   .subst j;rw[c4 d] at f;injection f with f
    exact a f
   .exact b c (by omega) f
  .obtain⟨rfl,b⟩:=b;unfold DG;rw[aG];refine ae (.inr ⟨rfl,λn=>?_⟩)
   obtain⟨i,d,rfl⟩:=dd.1 n;exact b i d (c4 d)
 unfold xb;obtain⟨g,k,o⟩:=m;refine(dL k).trans ?_
 rcases o with⟨rfl,a⟩ |⟨rfl,a⟩
 .rw[decide_eq_true a];rfl
 .rw[decide_eq_false a];rfl
def N1(c:bI)(a b:Int):Ok (xG LC c a b) λ_=>True:=by
 unfold xG;exact aV (λ_=>aV (λ_=>ae trivial) (λ_=>ae trivial)) (λ_=>ae trivial)
def ajL{a:ak}(g:cP a):Ok (EI LC a) λ_=>True:=by
 have j:=g.1;have k:=g.2.1;unfold EI;refine aD (Q:=λ_=>True) (aV (λ_=>ae trivial) (λ_=>ae trivial)) λb _=>?_
 refine dy (λ_=>ae trivial) (λ_=>?_)
 refine aD (Q:=λ_=>True) ?_ λf _=>?_
 .refine di a.ai.length (λi d=>d=(i:Int)) _ (λi d e c=>?_) (λd c=>?_) _ rfl
  .subst c;unfold IS;rw[aC,bn,c4 e,aa];refine aD (Q:=λ_=>True) (aV (λ_=>ae trivial) (λ_=>ae trivial)) λb _=>?_
   refine dy (λ_=>ae trivial) (λ_=>?_)
   rw[aJ];exact ae (by dsimp only;omega)
  .subst c;unfold IS;rw[aG];exact ae trivial
 .cases f with
  |inl _=>exact ae trivial
  |inr _=>
   show Ok ((bO _ _).bind _) _
   refine aD (Q:=λ_=>True) ?_ λf _=>by cases f <;> exact ae trivial
   refine di a.af.length (λi d=>d=(i:Int)) _ (λi d e c=>?_) (λd c=>?_) _ rfl
   .subst c;unfold KX;rw[aC,bn,c4 e,aa];have tr:∀{p:Prop} [Decidable p] {a:Option Bool},Ok a (λ_=>True)->Ok (bif decide p then c5 true else a) λ_=>True:=λ{p} _ {a} h=>aV (λ_=>ae trivial) (λ_=>h)
    refine aD (Q:=λ_=>True) (tr (tr (tr (tr (ae trivial))))) λb _=>?_
    refine dy (λ_=>ae trivial) (λ_=>?_)
    refine aD (Q:=λ_=>True) (tr (tr (tr (tr (aD (N1 _ _ _) λb _=>dy (λ_=>ae trivial) λ_=>aD (N1 _ _ _) λb _=>ae trivial))))) λb _=>?_
    refine dy (λ_=>ae trivial) (λ_=>?_)
    rw[aJ];exact ae (by dsimp only;omega)
   .subst c;unfold KX;rw[aG];exact ae trivial
def Lx{c:ak}(e:cP c){i:Nat}(g:i<c.af.length)(b:Bool):Ok (wm LC c (i:Int) b) λ_=>True:=by
 have q:=e.2.1;have f:=c4 g;have h:=dv g;generalize c.af[i]=r at f h;have o:=(e.2.2.2 r h).1;unfold wm Gv;refine aD (Q:=λ_=>True) ?_ λ_ _=>ae trivial
 refine aD (Q:=λ_=>True) ?_ λs _=>?_
 .refine aD (ajL e) λp _=>?_
  refine aV (λ_=>ae trivial) (λ_=>aV (λ_=>ae trivial) (λ_=>aV (λ_=>ae trivial) (λ_=>?_)))
  rw[bn,f,aa,aa];exact dy (λ_=>ae trivial) (λ_=>ae trivial)
 .refine dy (λ_=>ae trivial) (λ_=>?_)
  rw[bn,f,aa];obtain⟨a,l,d⟩:∃a:Int×Int,Da LC r b=c5 a/\(0<=a.1/\a.1<(c.ai.length:Int))/\0<=a.2/\a.2<(c.ai.length:Int):=by
   unfold Da;cases b
   .exact⟨_,rfl,by dsimp only;omega,by dsimp only;omega⟩
   .exact⟨_,rfl,by dsimp only;omega,by dsimp only;omega⟩
  rw[l,aa,jF ⟨0,false⟩ d.2.1 d.2.2,aa,jF ⟨0,false⟩ d.1.1 d.1.2,aa];refine aD (Q:=λr:Int=>r≠0) (aV (λ_=>ae (by decide)) (λ_=>ae (by decide))) λm j=>?_
  refine aD (Q:=λr:Int=>r≠0) (aV (λ_=>ae (by decide)) (λ_=>ae j)) λn k=>?_
  rw[Ek k,aa];exact ae trivial
def Yh{c:ak}(g:cP c){ar:List Int}(l:Fit ar):Ok (Dt LC c ar) λr=>r.length<=c.af.length/\cj 0 ((c.af.length:Int) -1) r:=by
 have p:=g.2.1;unfold Dt;refine aD (Q:=λr:List Int=>r.length<=c.af.length/\cj 0 ((c.af.length:Int) -1) r) ?_ λf k=>ae k
 refine di c.af.length (λi a=>a.2=(i:Int)/\a.1.length<=i/\cj 0 ((i:Int) -1) a.1) _ (λi a j h=>?_) (λa h=>?_) _ ⟨rfl,gb _,cj.nil⟩
 .obtain⟨m,o⟩:=a;obtain⟨rfl,e,d⟩:=h;dsimp only at e d⊢;unfold Hh;rw[aC,bn,c4 j,aa];refine aD (Q:=λ_=>True) ?_ λb _=>?_
  .refine aD (Lx g j false) λn _=>?_
   exact aV (λ_=>ae trivial) (λ_=>aD (Lx g j true) λn _=>ae trivial)
  refine aD (Q:=λ_=>True) ?_ λb _=>?_
  .refine dy (λ_=>dy (λ_=>?_) (λ_=>ae trivial)) (λ_=>ae trivial)
   rw[has_eq l,aa,has_eq l,aa];exact ae trivial
  refine aD (Q:=λf:List Int=>f.length<=i+1/\cj 0 (((i+1:Nat):Int) -1) f) ?_ λf k=>?_
  .refine dy (λ_=>?_) (λ_=>ae ⟨by omega,d.up (c7 _) (by omega)⟩)
   rw[dm (by decide) (by omega),aa];exact ae ⟨by simp;omega,JL d (by omega) (by omega) (by omega)⟩
  .rw[aJ];exact ae ⟨rfl,k⟩
 .obtain⟨m,o⟩:=a;obtain⟨rfl,e,d⟩:=h;dsimp only at e d⊢;unfold Hh;rw[aG];exact ae ⟨e,d⟩
structure yJ (s:gM):Prop where
 fN:CJ s.ao
 rd:s.aQ.length<=3/\∀x,x∈s.aQ->lS s.ao.ai.length x
 pl:(1<=s.ai.length/\s.ai.length<=3)/\∀x,x∈s.ai->0<=x/\x<(s.ao.ai.length:Int)
 tg:s.aw.length=s.ai.length/\lz s.aw
 fl:s.cI.length=s.ao.af.length/\∀x,x∈s.cI->ke x
 es:lH s.ao s.bR/\s.bR.dg=[]/\s.bR.dG=[]/\s.bR.akL.length<=1
 bl:rR s.bM/\s.bM.bT.length<=2/\∀x,s.bM.bT[s.bM.bT.length -1]?=c5 x->x<(s.ao.ai.length:Int)
 br:(1<=s.gZ.length/\s.gZ.length<=10)/\cj 0 ((s.ao.af.length:Int) -1) s.gZ
section
variable {l:List Int}
def alo(g:l.length<=400):Ok (zy LC ⟨l,0⟩) λr=>DI l r.1 r.2.1/\yJ r.2.2:=by
 unfold zy;refine aD (amM g DI.init) λal C=>?_
 obtain⟨ao,Z,m⟩:=al;obtain⟨C,u⟩:=C;dsimp only at C u⊢;have aB:=u.np;have aw:=u.nr;refine aD (als g (d:=⟨ao,Z⟩) u C) λs I=>?_
 refine aD (ir g (d:=⟨s.1,s.2.1⟩) I.1 3 (by decide) (by decide)) λx W=>?_
 rw[aJ (n:=1+x.2.2)];refine aD (Q:=λh=>∃f e a c,h=(f,e,m.ai,m.af,s.2.2,a,c,([]:List bI),([]:List Int),([]:List Int),([]:List Int),([]:List Int),([]:List Int))/\DI l f e/\((1<=a.length/\a.length<=3)/\∀k,k∈a->0<=k/\k<(m.ai.length:Int))/\c.length=a.length/\cj 1 65535 c) ?_ λax U=>?_
 .obtain⟨n,aj⟩:∃n:Nat,1+x.2.2=(n:Int):=⟨(1+x.2.2).toNat,by omega⟩;rw[aj];refine di n (λi D=>∃f e a c,D=(f,e,m.ai,m.af,s.2.2,([]:List bI),([]:List Int),([]:List Int),([]:List Int),([]:List Int),([]:List Int),a,c,((n:Int) -i))/\DI l f e/\(a.length=i/\∀k,k∈a->0<=k/\k<(m.ai.length:Int))/\c.length=a.length/\cj 1 (30 -7*((n:Int) -i+1)) c) _ (λi D az G=>?_) (λD G=>?_) _ ⟨x.1,x.2.1,[],[],by simp,W.1,⟨rfl,(λk o=>by cases o)⟩,rfl,cj.nil⟩
  .obtain⟨f,e,a,c,rfl,z,y,B,w⟩:=G;unfold F8;dsimp only;rw[aC];refine aD (ir g (d:=⟨f,e⟩) z (m.ai.length:Int) (by omega) (by omega)) λr j=>?_
   rw[dm (by decide) (by omega),aa,aJ (n:=7*((n:Int) -i)) (by omega) (by omega),aJ (n:=30 -7*((n:Int) -i)) (by omega) (by omega),dm (by decide) (by omega),aa,aJ];refine ae ⟨r.1,r.2.1,a++[r.2.2],c++[30 -7*((n:Int) -i)],?_,j.1,⟨by simp;omega,λk o=>?_⟩,by simp[B],JL w (by omega) (by omega) (by omega)⟩
   .rw[show(n:Int) -i -1=(n:Int) - ((i+1:Nat):Int) by omega]
   .rcases e4.1 o with o |o
    .exact y.2 k o
    .rw[dk] at o;rw[o];exact j.2
  .obtain⟨f,e,a,c,rfl,z,y,B,w⟩:=G;unfold F8;dsimp only;rw[aG];exact ae ⟨f,e,a,c,rfl,z,⟨by omega,y.2⟩,B,w.up (c7 _) (by omega)⟩
 obtain⟨f,e,a,c,rfl,z,y,B,w⟩:=U;dsimp only;refine aD (afs g (m:=⟨m.ai,m.af⟩) (d:=⟨f,e⟩) u z) λv L=>?_
 refine aD (iM g (d:=⟨v.1,v.2.1⟩) L.1 [600,100,2000] (by decide) (by decide)) λq S=>?_
 have aq:100<=q.2.2/\q.2.2<=2000:=by have:=S.2;simp at this;omega
 refine aD (p9 g (d:=⟨q.1,q.2.1⟩) S.1 3 (by decide)) λR K=>?_
 refine aD (Q:=λh=>∃f e safe,h=(f,e,m.ai,m.af,s.2.2,a,c,v.2.2,safe,([]:List Int),([]:List Int),q.2.2,([]:List Int),([]:List Int))/\DI l f e/\cj 0 ((m.ai.length:Int) -1) safe/\safe.length<=1) ?_ λay ag=>?_
 .refine dy (λ_=>?_) (λ_=>ae ⟨_,_,[],rfl,K,cj.nil,by simp⟩)
  exact aD (ir g (d:=⟨R.1,R.2.1⟩) K (m.ai.length:Int) (by omega) (by omega)) λr j=>ae ⟨_,_,[r.2.2],rfl,j.1,cj.one j.2.1 (by omega),by simp⟩
 obtain⟨ak,am,safe,rfl,X,an,af⟩:=ag;dsimp only;refine aD (iM g (d:=⟨ak,am⟩) X [299,4] (by decide) (by decide)) λt M=>?_
 have aA:4<=t.2.2/\t.2.2<=299:=by have:=M.2;simp at this;omega
 refine aD (iM g (d:=⟨t.1,t.2.1⟩) M.1 [99,1799] (by decide) (by decide)) λp F=>?_
 have au:99<=p.2.2/\p.2.2<=1799:=by have:=F.2;simp at this;omega
 rw[aJ (n:=(m.ai.length:Int) -2),aJ (n:=(m.ai.length:Int) -1),aJ (n:=1+t.2.2),aJ (n:=1+p.2.2)];refine aD (Q:=λh:List Int×Int×Bool=>DI l h.1 h.2.1/\(h.2.2=true->2<(m.ai.length:Int))) ?_ λJ E=>?_
 .refine aV (λab=>?_) (λ_=>ae ⟨F.1,λA=>by cases A⟩)
  exact aD (p9 g (d:=⟨p.1,p.2.1⟩) F.1 3 (by decide)) λr j=>ae ⟨j,λ_=>ab⟩
 refine aD (Q:=λh:DN=>∃ar,h=zl ⟨m,s.2.2,a,c,v.2.2,⟨safe,[],[],q.2.2⟩,⟨ar,1+t.2.2,1+p.2.2⟩,[]⟩/\ar.length≠0/\ar.length<=2/\cj 0 ((m.ai.length:Int) -1) ar) ?_ λav V=>?_
 .refine dy (λA=>ae ⟨_,rfl,by simp,by simp,?_⟩) (λ_=>ae ⟨_,rfl,by simp,by simp,cj.one (by omega) (by omega)⟩)
  have:=E.2 A;exact JL (l:=[(m.ai.length:Int) -2]) (b:=(m.ai.length:Int) -2) (cj.one (by omega) (by omega)) (by omega) (by omega) (by omega)
 obtain⟨ar,rfl,ad,ah,O⟩:=V;rw[show Nr (zl ⟨m,s.2.2,a,c,v.2.2,⟨safe,[],[],q.2.2⟩,⟨ar,1+t.2.2,1+p.2.2⟩,[]⟩)=⟨m,s.2.2,a,c,v.2.2,⟨safe,[],[],q.2.2⟩,⟨ar,1+t.2.2,1+p.2.2⟩,[]⟩ from rfl];dsimp only;refine aD (Yh u.ok (ar:=ar) (by show ar.length<=_;omega)) λN Y=>?_
 have fin:∀(b:List Int),(1<=b.length/\b.length<=10)->cj 0 ((m.af.length:Int) -1) b->yJ ⟨m,s.2.2,a,c,v.2.2,⟨safe,[],[],q.2.2⟩,⟨ar,1+t.2.2,1+p.2.2⟩,b⟩:=λb ai ac=>by
  refine⟨u,I.2,y,⟨B,w.bo⟩,L.2,⟨⟨u.ok,an,cj.nil,cj.nil,?_,?_⟩,rfl,rfl,af⟩,⟨⟨ad,O.up (by decide) (by omega),⟨?_,?_⟩,?_,?_⟩,ah,λk o=>?_⟩,ai,ac⟩
  .dsimp only;omega
  .dsimp only;omega
  .dsimp only;omega
  .dsimp only;omega
  .dsimp only;omega
  .dsimp only;omega
  .have:=O.mem (fC o);show k<(m.ai.length:Int)
   omega
 refine aD (Q:=λh:List Int×Int×Bool=>DI l h.1 h.2.1/\(h.2.2=false->1<=N.length)) ?_ λP H=>?_
 .refine aV (λ_=>ae ⟨E.1,λA=>by cases A⟩) (λap=>?_)
  exact aD (p9 g (d:=⟨J.1,J.2.1⟩) E.1 8 (by decide)) λr j=>ae ⟨j,λ_=>by omega⟩
 refine dy (λ_=>?_) (λT=>ae ⟨H.1,fin N ⟨H.2 T,by omega⟩ Y.2⟩)
 exact aD (ir g (d:=⟨P.1,P.2.1⟩) H.1 (m.af.length:Int) (by omega) (by omega)) λr j=>ae ⟨j.1,fin [r.2.2] (by simp) (cj.one j.2.1 (by omega))⟩
end
def ajS{c:List Int}{b:ak}(f:cj 0 ((b.af.length:Int) -1) c)(i:b.af.length<=1000)(g:c.length<=1000):zi LC c b=c5 false:=by
 unfold zi;have d:Ak LC c b=c5 (gg (λa=>!c3 (0<=a/\a<=(b.af.length:Int) -1)) c):=by
  unfold Ak;refine fF (P:=λa=>zm LC a b) (by omega) (λa _=>?_) λh=>rfl
  unfold zm;rw[aJ,cF,aa]
 rw[d,aa,gm]
 congr 1
 rw[hq];intro a e;have:=f.mem e;simp[this.1,this.2]
structure Lr (m:ak) (bo ps:List Int) (b:aL):Prop where
 ex:∃wh,b=⟨[⟨bo,wh⟩]⟩/\wh.length=ps.length/\∀(i:Nat) x p,wh[i]?=c5 x->ps[i]?=c5 p->x.aa0=0/\jK m x/\fn x.an p<=0
def adm{g:ak}{e c:List Int}(s:cP g)(J:e.length=c.length)(I:1<=c.length/\c.length<=3)(A:lz e)(x:∀a,a∈c->0<=a/\a<(g.ai.length:Int)):Ok (Bk LC g e c 0) λq=>q.2=0/\Lr g e c q.1:=by
 unfold Bk;rw[ko,aa,decide_eq_true s,eo,cond_false,aG,cF,aa,decide_eq_true (by omega),eo,aa,cond_false,O6 (cX (n:=3) (by omega) (by decide)),aa,decide_eq_true A,eo,cond_false,bV (cX (n:=3) (by omega) (by decide)),aa];refine aD (Q:=λw=>∃b,w=eE (e,b)/\b.length=c.length/\∀(i:Nat) a p,b[i]?=c5 a->c[i]?=c5 p->a.aa0=0/\jK g a/\fn a.an p<=0) ?_ λw B=>?_
 .refine di c.length (λi m=>∃b,m=(e,b,(i:Int))/\b.length=i/\∀(i:Nat) a p,b[i]?=c5 a->c[i]?=c5 p->a.aa0=0/\jK g a/\fn a.an p<=0) _ (λi m v o=>?_) (λm o=>?_) _ ⟨[],rfl,rfl,λi a p d=>by simp at d⟩
  .obtain⟨b,rfl,f,j⟩:=o;unfold HP;dsimp only;have r:=c4 v;have u:=dv v;generalize c[i]=p at r u;rw[aC,bn,r,aa];refine aD (aaW s (x p u) (t:=0) (by decide)) λq C=>?_
   obtain⟨y,F,D,E⟩:=C;rw[aG (by rw[y];simp),dm (by decide) (by omega),aa,aJ];refine ae ⟨b++[q.1],rfl,by simp[f],λk a G d h=>?_⟩
   by_cases H:k<b.length
   .rw[e0 H] at d;exact j k a G d h
   .have z:k=i:=by
     have:=(ef.1 d).1;simp at this;omega
    subst z;rw[ft (by omega),f,Nat.sub_self] at d;have d:c5 q.1=c5 a:=d;injection d with d
    rw[r] at h;injection h with h
    subst d;subst h;exact⟨F,D,E⟩
  .obtain⟨b,rfl,f,j⟩:=o;unfold HP;dsimp only;rw[aG];exact ae ⟨b,rfl,f,j⟩
 .obtain⟨b,rfl,f,j⟩:=B;exact ae ⟨rfl,⟨b,rfl,f,j⟩⟩
def anj:Ok (DL LC) λa=>Sm a.dl/\Sm a.dr:=by
 unfold DL;rw[show(32:Int)=((32:Nat):Int) from rfl,Oa (by decide),aa,nS (by decide) (by decide),aa];exact ae ⟨by show(e6 32 (-1:Int)).length<=_;rw[ey];decide,by show(e6 _ (0:Int)).length<=_;rw[ey];decide⟩
structure vD (s:gM) (p:aE):Prop where
 ex:∃x b bs,p=⟨xj s.ao s.aQ s.ai s.aw 0,s.ao,s.cI,s.bR,s.bM,e6 s.aQ.length (aT.mk 0 0 0 []),[],x,b,⟨0,[]⟩,⟨s.gZ,bs,false⟩,⟨0,0,0,0⟩,⟨[]⟩,[],[]⟩/\(Sm x.dl/\Sm x.dr)/\Lr s.ao s.aw s.ai b/\bs=e6 s.gZ.length 0
def vD.mD{s:gM}(c:yJ s){p:aE}(h:vD s p):dW s.ai.length s.ao.ai.length p:=by
 obtain⟨x,b,J,rfl,y,t,rfl⟩:=h.ex;obtain⟨wh,rfl,F,G⟩:=t.ex;have E:=c.fN.ok;have A:=c.pl.1;have d:=c.rd;have u:=c.fN.nr;have H:=c.fN.np;have k:=c.br;refine {n3:=A,kN:=?_,fN:=rfl,gq:=E,gk:=rfl,iz:=by show(s.ai.map _).length=_;rw[dT],jR:=d.1,kj:=by show(s.aQ.map _).length=_;rw[dT];rfl,uD:=c.fl.1,kI:=?_,qx:=cX c.bl.2.1 (by decide),kn:=by show(e6 _ _).length=_;rw[ey];rfl,rX:=?_,uB:=by show(0:Nat)<=60;decide,rW:=(λr d=>by cases d),int:=y,hZ:=?_,bne:=by simp,je:=.nil,pq:=.inl rfl,key:=?_,jY:=k.2,iI:=⟨by simp,(λa w=>by cases w),hU⟩,log:=by show(0:Nat)<=200;decide,uC:=(λh B=>by cases B)}
 .refine⟨cX (n:=7) H.2 (by decide),cX (n:=10) u.2 (by decide),?_,cX (n:=3) (by show s.aw.length<=3;have:=c.tg.1;omega) (by decide),cX (n:=3) d.1 (by decide),λr j=>?_,?_,?_,?_,λl o=>?_⟩
  .show(s.ai.map _).length<=1000000;rw[dT];omega
  .have:=(d.2 r j).2.1.len (by omega);show r.ai.length<=1000000
   omega
  .show(s.aQ.map _).length<=1000000;rw[dT];omega
  .show(s.aQ.map _).length<=1000000;rw[dT];omega
  .show(s.aQ.map _).length<=1000000;rw[dT];omega
  .obtain⟨r,_,rfl⟩:=hP.1 o;show(e6 _ _).length<=1000000;rw[ey];omega
 .have e:=c.es;refine⟨⟨?_,?_,?_⟩,?_,?_,?_⟩
  .show s.bR.akL.length<=4611686018427387904;omega
  .show s.bR.dg.length<=4611686018427387904;rw[e.2.1];simp
  .show s.bR.dG.length<=4611686018427387904;rw[e.2.2.1];simp
  .show s.bR.akL.length<=1000000;omega
  .show s.bR.dg.length<=1000000;rw[e.2.1];simp
  .show s.bR.dG.length<=1000000;rw[e.2.2.1];simp
 .intro r j;rw[h6 j];simp
 .refine⟨by simp,λI m=>?_⟩
  rw[dk] at m;subst m;refine⟨⟨F,λx C=>?_⟩,c.tg.1⟩
  obtain⟨i,hi,rfl⟩:=dd.1 C;exact(G i _ _ (c4 hi) (c4 (show i<s.ai.length by have hi:i<wh.length:=hi;omega))).2.1.1.1
 .refine⟨⟨by show(1:Int)<=(s.gZ.length:Int)/\(s.gZ.length:Int)<=12;omega,k.2.up (c7 _) (by omega)⟩,by show(e6 _ _).length=_;rw[ey],λn D=>?_,λh=>by cases h⟩
  rw[h6 D]
  decide
def amU{a:gM}(c:yJ a):Ok (wX LC a.ao a.aQ a.ai a.aw a.cI a.bR a.bM a.gZ) λr=>r.2=0/\vD a r.1:=by
 have h:=c.fN.ok;have g:=c.pl;have s:=c.rd;have G:=c.fN.nr;have I:=c.fN.np;have e:=c.br;have i:=c.bl;unfold wX;rw[start_eq ⟨h,by omega,s.2⟩ c.tg.1 (by omega) g.2 c.tg.2 (by decide),aa,aG (by simp)];obtain⟨q,z,d⟩:=aqw a.ao a.cI [] 0 (by decide) (by show _<=4611686018427387904;omega);rw[z,aa];have y:q.2=0:=by
  rcases d with d |d
  .exact d.1
  .exact absurd ⟨⟨h,c.fl.1,c.fl.2⟩,cj.nil,by decide,by decide⟩ d.2
 have H:a.bM.bT.length≠0:=i.1.1;have j:a.bM.bT[a.bM.bT.length -1]?=c5 (a.bM.bT[a.bM.bT.length -1]'(by omega)):=c4 _;generalize a.bM.bT[a.bM.bT.length -1]'(by omega)=x at j;have f:=c.es;have F:lO a.bR:=⟨by show a.bR.akL.length<=4611686018427387904;omega,by show a.bR.dg.length<=4611686018427387904;rw[f.2.1];simp,by show a.bR.dG.length<=4611686018427387904;rw[f.2.2.1];simp⟩;have D:(bif c3 (q.2≠0) then c5 true else(rP LC a.ao a.bR).bind λo=>bif (!o) then c5 true else(oT LC a.bM (b7.mk 0 0 0 0)).bind λE=>bif (!E) then c5 true else(aj a.bM.bT (IntKind.i64.wrap ((a.bM.bT.length:Int) -1))).bind λC=>c5 (c3 ((a.ao.ai.length:Int)<=C)):Option Bool)=c5 false:=by
  rw[aG (by rw[y];simp),Jc F,aa,decide_eq_true f.1,eo,cond_false,AH (by show a.bM.bT.length<=_;omega),aa,decide_eq_true ⟨i.1,Xp⟩,eo,cond_false,aJ,show((a.bM.bT.length:Int) -1)=((a.bM.bT.length -1:Nat):Int) by omega,bn,j,aa,decide_eq_false (by have:=i.2.2 x j;omega)]
 refine c8 D ?_
 rw[cond_false,ajS e.2 (by omega) (by omega),aa,cond_false];have B:uJ a.gZ:=⟨by omega,e.2.up (c7 _) (by omega)⟩;have p:AQ LC a.gZ=c5 (⟨a.gZ,e6 a.gZ.length 0,false⟩,0):=by
  unfold AQ;rw[Nq (by show _<=4611686018427387904;omega),aa,decide_eq_true B,eo,cond_false,bV (cX (n:=10) e.1.2 (by decide)),aa,nS (by omega) (by omega),aa,e5]
 rw[p,aa,aG (by simp)];obtain⟨b,t,w,u⟩:=adm h c.tg.1 g.1 c.tg.2 g.2;rw[t,aa,aG (by rw[w];simp),nS (by omega) (by omega),aa,e5];obtain⟨m,v,A⟩:=anj;rw[v,aa];have k:vD a ⟨xj a.ao a.aQ a.ai a.aw 0,a.ao,a.cI,a.bR,a.bM,e6 a.aQ.length (aT.mk 0 0 0 []),[],m,b.1,⟨0,[]⟩,⟨a.gZ,e6 a.gZ.length 0,false⟩,⟨0,0,0,0⟩,⟨[]⟩,[],[]⟩:=⟨m,b.1,_,rfl,A,u,rfl⟩;rw[abi (k.mD c).lC,aa];exact ae ⟨rfl,k⟩
def Vr{a:gM}(c:yJ a):Ok (Cw LC a) λr=>r.2=true/\vD a r.1:=by
 unfold Cw;exact aD (amU c) λr b=>ae ⟨decide_eq_true b.1,b.2⟩
def k9(b:Nat)(a:bH):Prop:=a.abv=3->0<=a.A/\a.A<max 1 (b:Int)
section
variable {l:List Int}
def anp(e:l.length<=400){d:bD}(q:DI l d.L d.At){p1 p2 p3 p5:Int}{nr:Nat}(C:p1<=1000)(A:p2<=1000)(z:p3<=1000)(y:nr<=1000)(B:p5<=1000):Ok (Di LC d p1 p2 p3 (max 1 (nr:Int)) p5) λr=>DI l r.1 r.2.1/\k9 nr r.2.2:=by
 unfold Di;refine aD (iM e q [1,1,2,2,3,4,3,4,5,6,7,8,9,10,11,12,13,7] (by decide) (by decide)) λc f=>?_
 refine aD (Q:=λi:vL=>∃g s,i=rB g s/\DI l g.L g.At/\k9 nr s) ?_ λi n=>by
  obtain⟨g,s,rfl,v,x⟩:=n;exact ae ⟨v,x⟩
 have no:∀{t b u o:Int},o≠3->k9 nr ⟨o,t,b,u⟩:=λ{t b u o} h q=>absurd q h
 refine aV (λh=>?_) (λ_=>?_)
 .exact aD (iM e (d:=⟨c.1,c.2.1⟩) f.1 [1,5,10,30,100,0,300] (by decide) (by decide)) λr a=>ae ⟨_,_,rfl,a.1,no (by omega)⟩
 refine aV (λh=>?_) (λ_=>?_)
 .refine aD (lW e (d:=⟨c.1,c.2.1⟩) f.1 p1 (by omega)) λr a=>?_
  refine aD (lW e (d:=⟨r.1,r.2.1⟩) a.1 p2 (by omega)) λj m=>?_
  exact aD (iM e (d:=⟨j.1,j.2.1⟩) m.1 [0,0,5,60] (by decide) (by decide)) λw p=>ae ⟨_,_,rfl,p.1,no (by omega)⟩
 refine aV (λh=>?_) (λk=>?_)
 .refine aD (ir e (d:=⟨c.1,c.2.1⟩) f.1 (max 1 (nr:Int)) (by omega) (by omega)) λr a=>?_
  refine aD (iM e (d:=⟨r.1,r.2.1⟩) a.1 [0,0,1,2,3] (by decide) (by decide)) λj m=>?_
  exact aD (iM e (d:=⟨j.1,j.2.1⟩) m.1 [0,0,1,(-1),3] (by decide) (by decide)) λw p=>ae ⟨_,_,rfl,p.1,λ_=>a.2⟩
 refine aV (λh=>?_) (λ_=>?_)
 .exact aD (lW e (d:=⟨c.1,c.2.1⟩) f.1 _ (by omega)) λr a=>ae ⟨_,_,rfl,a.1,no (by omega)⟩
 refine aV (λh=>?_) (λ_=>?_)
 .refine aD (lW e (d:=⟨c.1,c.2.1⟩) f.1 p1 (by omega)) λr a=>?_
  exact aD (lW e (d:=⟨r.1,r.2.1⟩) a.1 p1 (by omega)) λj m=>ae ⟨_,_,rfl,m.1,no (by omega)⟩
 refine aD (Q:=λi:List Int×Int×Int×Int×Int=>DI l i.1 i.2.1/\i.2.2.1≠3) ?_ λi n=>ae ⟨_,_,rfl,n.1,no n.2⟩
 refine aV (λh=>?_) (λ_=>?_)
 .exact aD (lW e (d:=⟨c.1,c.2.1⟩) f.1 p3 (by omega)) λr a=>ae ⟨a.1,k⟩
 refine aV (λh=>?_) (λ_=>?_)
 .exact aD (lW e (d:=⟨c.1,c.2.1⟩) f.1 p5 (by omega)) λr a=>ae ⟨a.1,k⟩
 refine aD (Q:=λ_=>True) (aV (λ_=>ae trivial) (λ_=>ae trivial)) λb _=>?_
 refine dy (λ_=>?_) (λ_=>?_)
 .exact aD (lW e (d:=⟨c.1,c.2.1⟩) f.1 2 (by decide)) λr a=>ae ⟨a.1,k⟩
 refine aV (λh=>?_) (λ_=>?_)
 .refine aD (lW e (d:=⟨c.1,c.2.1⟩) f.1 4 (by decide)) λr a=>?_
  rw[Ek (by decide),aa];exact ae ⟨a.1,k⟩
 refine aD (Q:=λ_=>True) (aV (λ_=>ae trivial) (λ_=>ae trivial)) λb _=>?_
 refine dy (λ_=>?_) (λ_=>ae ⟨f.1,k⟩)
 exact aD (lW e (d:=⟨c.1,c.2.1⟩) f.1 p2 (by omega)) λr a=>ae ⟨a.1,k⟩
def vx{c:Nat}{d b:List bH}(e:∀a,a∈d->k9 c a)(g:∀a,a∈b->k9 c a):∀a,a∈d++b->k9 c a:=λa f=>(e4.1 f).elim (e a) (g a)
def aqk(h:l.length<=400){d:bD}(e:DI l d.L d.At){E H:Nat}{p:aE}(k:dW E H p)(s:Int)(G:1<=s)(V:s<=1000):Ok (EJ LC d p s) λr=>DI l r.1 r.2.1/\r.2.2.length<=100/\∀b,b∈r.2.2->k9 p.au.aQ.length b:=by
 have U:=k.key.1.1;have N:=k.iz;have O:=k.n3;have T:=k.gq.1;have Z:=k.gq.2.1;have R:=k.jR;unfold EJ;refine aD (ir h e s G (by omega)) λI M=>?_
 rw[aJ];refine aD (Q:=λa:List Int×Int×List bH=>DI l a.1 a.2.1/\a.2.2.length<=100/\∀b,b∈a.2.2->k9 p.au.aQ.length b) ?_ λa g=>ae g
 refine oa (λc=>(0<=c.2.2.2/\c.2.2.2<=5+I.2.2)/\DI l c.1 c.2.1/\c.2.2.1.length<=100/\∀b,b∈c.2.2.1->k9 p.au.aQ.length b) (λc=>c.2.2.2.toNat) _ (λc o=>?_) _ ⟨⟨(by dsimp only;omega),c7 _⟩,M.1,by simp,(λb f=>by cases f)⟩
 obtain⟨F,B,t,i⟩:=c;obtain⟨h0,w,y,n⟩:=o;dsimp only at h0 w y n⊢;unfold T2;dsimp only;have K:(bif c3 (0<i) then c5 (c3 ((t.length:Int)<60)) else c5 false)=c5 (c3 (0<i/\(t.length:Int)<60)):=fm rfl;refine c8 K ?_
 refine aV (λS=>?_) (λ_=>ae ⟨w,y,n⟩)
 refine aD (Q:=λa:List Int×Int×List bH=>DI l a.1 a.2.1/\a.2.2.length<=100/\∀b,b∈a.2.2->k9 p.au.aQ.length b) ?_ λa g=>by
  rw[aJ];exact ae ⟨⟨by dsimp only;omega,g⟩,by dsimp only;omega⟩
 refine aD (p9 h (d:=⟨F,B⟩) w 12 (by decide)) λr x=>?_
 refine dy (λ_=>?_) (λ_=>?_)
 .refine aD (Q:=λa:List bH=>a.length<=t.length+12/\∀b,b∈a->k9 p.au.aQ.length b) ?_ λa g=>?_
  .refine di p.aa2.af.length (λi c=>c.2=(i:Int)/\c.1.length=t.length+i/\∀b,b∈c.1->k9 p.au.aQ.length b) _ (λi c X o=>?_) (λc o=>?_) _ ⟨rfl,rfl,n⟩
   .obtain⟨J,q⟩:=c;obtain⟨rfl,v,m⟩:=o;dsimp only at v m⊢;unfold II;rw[aC,dm (by decide) (by omega),aa,aJ];refine ae ⟨rfl,by simp;omega,vx m λb f=>?_⟩
    rw[dk] at f;subst f;exact λe=>absurd e (show ¬(7:Int)=3 by decide)
   .obtain⟨J,q⟩:=c;obtain⟨rfl,v,m⟩:=o;dsimp only at v m⊢;unfold II;rw[aG];exact ae ⟨by omega,m⟩
  .rw[pN (by simp;omega),aa];refine ae ⟨x,by simp;omega,vx g.2 λb f=>?_⟩
   simp at f;rcases f with rfl |rfl |rfl |rfl <;> exact λe=>absurd e (by decide)
 .refine aD (Q:=λa:List Int×Int×Bool=>DI l a.1 a.2.1/\(a.2.2=true->0<p.au.aQ.length)) (aD (p9 h (d:=⟨r.1,r.2.1⟩) x 3 (by decide)) λW A=>dy (λ_=>ae ⟨A,λe=>by have:=of_decide_eq_true e;omega⟩) (λ_=>ae ⟨A,λe=>by cases e⟩)) λa g=>?_
  refine dy (λC=>?_) (λ_=>?_)
  .have P:=g.2 C;refine aD (ir h (d:=⟨a.1,a.2.1⟩) g.1 (p.au.aQ.length:Int) (by omega) (by omega)) λu j=>?_
   refine aD (iM h (d:=⟨u.1,u.2.1⟩) j.1 [0,0,1] (by decide) (by decide)) λz D=>?_
   refine aD (iM h (d:=⟨z.1,z.2.1⟩) D.1 [1,5,10,20] (by decide) (by decide)) λY L=>?_
   rw[pN (by simp;omega),aa];refine ae ⟨L.1,by simp;omega,vx n λb f=>?_⟩
   simp at f;rcases f with rfl |rfl |rfl
   .exact λ_=>⟨j.2.1,by have:=j.2.2;show u.2.2<_;omega⟩
   .exact λe=>absurd e (show ¬(4:Int)=3 by decide)
   .exact λe=>absurd e (show ¬(1:Int)=3 by decide)
  .refine aD (anp h (d:=⟨a.1,a.2.1⟩) g.1 (p1:=(p.au.aN.length:Int)) (p2:=(p.ao.af.length:Int)) (p3:=(p.ao.ai.length:Int)) (nr:=p.au.aQ.length) (p5:=max 1 (p.aa2.af.length:Int)) (by omega) (by omega) (by omega) (by omega) (by omega)) λu j=>?_
   rw[dm (by decide) (by omega),aa];refine ae ⟨j.1,by simp;omega,vx n λb f=>?_⟩
   rw[dk] at f;rw[f];exact j.2
end
def gC.Gm{p j:aE}{e:bH}(h:gC p e j):j.au.aQ=p.au.aQ:=by
 cases h with
 |xZ _ _ _ _ _ c=>obtain⟨b,s,fl,sm,m,rfl,_⟩:=c.ex;rfl
 |xY _ _ _ _ _ _ _ _ _ c=>obtain⟨b,s,fl,sm,m,rfl,_⟩:=c.ex;rfl
 |look k rd y r _ _ c=>obtain⟨row,C,yp,a,l,o,w,t,n,A,B,u,G,d⟩:=c.ex;rw[d]
 |swap x b s F E _ _ _ _ _ _ _ _ d D n=>rw[d]
 |_=>rfl
def oA.Gm{p a:aE}{e:bH}{c:Int}(h:oA p e a c):a.au.aQ=p.au.aQ:=by
 cases h with
 |no c _=>rfl
 |bad al nm c _ _ _ _ _=>rfl
 |zI q nm d _ _ _=>exact d.Gm
noncomputable def L2:Lp:=⟨λf c=>match fY f 2000 c with |some b=>c5 b |none=>bO f c,λf c b a=>by
 cases d:fY f 2000 c with
 |some e=>rw[d] at a;exact⟨2000,d.trans a⟩
 |none=>rw[d] at a;exact zR a⟩
def ah0:L2=LC:=by
 unfold L2 LC
 congr 1
 funext α β f a
 cases b:fY f 2000 a with
 |some c=>exact(Cd b).symm
 |none=>rfl
def ZE:vn L2=c5 true:=by kernel_rfl
def WQ:vn LC=c5 true:=ah0▸ZE
def ajy(a:List Int):I1 LC a=c5 (c3 ((a.length:Int)<=400)):=rfl
structure Gh where
 tr:Nat->Tr
 tp:Int->Int->Int
 lk:Nat->Nat->abc
 c:Nat->Nat
structure Ghs (n np:Nat) (G:Gh) (T:Int):Prop where
 ok:∀k,k<n->(G.tr k).Ok T
 oV:∀k,k<n->∀u,0<=u->u<=T->0<=(G.tr k).pl u/\(G.tr k).pl u<(np:Int)
def ala(g:vG)(G:Gh)(T:Int)(bo:List Int)(f:ay):Prop:=
 f.aw=bo/\∀(d:Nat) c,f.aH[d]?=c5 c->Snd g (G.tr d) T c.aa0 (fn c.an)/\∀e,bo[d]?=c5 e->∀a,c.aa0<=a->a<=T->G.tp e a=(G.tr d).pl a
structure aan (m:ak) (G:Gh) (T:Int) (bo:List Int) (b:aL):Prop where
 wok:∀w,w∈b.aA->∀x,x∈w.aH->jK m x/\x.aa0<=T
 tru:∃w,w∈b.aA/\ala (rL m) G T bo w
section
variable {n np:Nat}{m:ak}{G:Gh}{T:Int}{bo:List Int}{b b':aL}
def c9{c:Type}{a:List c}{i:Nat}{e:c}(d:a[i]?=c5 e):i<a.length:=(ef.1 d).1
def fM.lt(c:fM n np b){a:ay}(d:a∈b.aA){i:Nat}{x:aM}(h:a.aH[i]?=c5 x):i<n/\x.an.length=np:=by
 have:=c9 h;exact⟨by have:=(c.mX a d).1.1;omega,(c.mX a d).1.2 x (fC h)⟩
def aan.Ls(H:Ghs n np G T)(O:fM n np b)(h:aan m G T bo b){tag L a t:Int}{w:List Int}(U:a<=L)(R:L<=t)(J:t<=T)(I:G.tp tag L∈w)
 (K:oG (λx y=>y=x\/lG m x w a t y) (λx=>x.aa0<=a/\∀p,p∈w->t<fn x.an p) m tag b b'):aan m G T bo b':=by
 refine⟨λN E y B=>?_,?_⟩
 .obtain⟨l,o,i,x,V,_,d,c,rfl⟩:=K.n.from_ N E;rcases ej B with B |rfl
  .exact h.wok l o y B
  .rcases c with rfl |c
   .exact h.wok l o _ (fC d)
   .exact⟨c.new,by rw[c.time];exact J⟩
 .obtain⟨l,o,ht,D⟩:=h.tru;have key:∀(i:Nat) x,l.aw[i]?=c5 tag->l.aH[i]?=c5 x->x.aa0<=a->(G.tr i).pl L∈w/\fn x.an ((G.tr i).pl L)<=t:=λi x u d ad=>by
   obtain⟨s,A⟩:=D i x d;have aa:=A tag (by rw[<-ht];exact u) L (by omega) (by omega);rw[aa] at I;have ac:=s.ok L (by omega) (by omega);have ab:=(H.ok i (O.lt o d).1).L3 L (by have:=s.lo;omega) (by omega);exact⟨I,by omega⟩
  rcases K.n.b9 l o with⟨N,E,i,x,V,u,d,c,rfl⟩ |⟨i,x,u,d,P⟩
  .refine⟨_,E,ht,λk Z j=>?_⟩
   obtain⟨s,A⟩:=D i x d;dsimp only at j;rw[ez] at j
   split at j
   .rename_i e;subst e
    split at j
    .injection j with j
     subst j;rcases c with rfl |c
     .exact⟨s,A⟩
     .have F:=c.from_;obtain⟨C,M⟩:=key i x u d F;refine⟨?_,λY S Q W X=>A Y S Q (by rw[c.time] at W;omega) X⟩
      rw[c.time];exact s.Ls (H.ok i (O.lt o d).1) F U R J (c.low _ C M) c.cl
    .cases j
   .exact D k Z j
  .exfalso
   obtain⟨C,M⟩:=key i x u d P.1;have:=P.2 _ C;omega
def aan.abs(I:Ghs n np G T)(ae:fM n np b)(P:m.ai.length=np)(h:aan m G T bo b){tag a t bl:Int}{C:List Int}(K:t<=T)(ad:∀s l,a<=s->l<=t->s<=l->(∀d,s<=d->d<=l->G.tp tag d∈C)->l -s<=bl)
 (M:oG (λx A=>A=x\/∃g1,og m x C a t bl A g1) (λ_=>False) m tag b b'):aan m G T bo b':=by
 refine⟨λN F A B=>?_,?_⟩
 .obtain⟨y,w,i,x,Y,_,o,c,rfl⟩:=M.n.from_ N F;rcases ej B with B |rfl
  .exact h.wok y w A B
  .rcases c with rfl |⟨g1,c⟩
   .exact h.wok y w _ (fC o)
   .exact⟨c.new,by rw[c.time];exact K⟩
 .obtain⟨y,w,ht,O⟩:=h.tru;rcases M.n.b9 y w with⟨N,F,i,x,Y,R,o,c,rfl⟩ |⟨i,x,R,o,ag⟩
  .refine⟨_,F,ht,λk af j=>?_⟩
   obtain⟨E,H⟩:=O i x o;dsimp only at j;rw[ez] at j
   split at j
   .rename_i e;subst e
    split at j
    .injection j with j
     subst j;rcases c with rfl |⟨g1,c⟩
     .exact⟨E,H⟩
     .have ah:=c.from_;have hi:=(ae.lt w o).1;have ai:=E.lo;have J:=I.oV i hi;have Q:=c.bl;refine⟨?_,λac W d Z ab=>H ac W d (by rw[c.time] at Z;omega) ab⟩
      rw[c.time];refine E.agP (I.ok i hi) (S:=λq=>q∈C) (b:=max a x.aa0) (to:=t) (blind:=bl) (g1:=fn g1) (by omega) K Q.1 Q.2 (λs l aa L D U=>?_) (λd aa L D=>?_) c.c1 ?_ (by have:=c.new.2;rw[c.time] at this;exact this)
      .refine ad s l (by omega) L D λd X V=>?_
       rw[H tag (by rw[<-ht];exact R) d (by omega) (by omega)];exact U d X V
      .have u:=J d (by omega) (by omega);exact c.off _ u.1 (by rw[P];exact u.2) D
      .have u:=J t (by omega) (by omega);exact c.le _ u.1 (by rw[P];exact u.2)
    .cases j
   .exact O k af j
  .exact absurd ag id
def acL{j:Type}{a:List j}{i c:Int}(k:0<=i/\i<(a.length:Int))(l:0<=c/\c<(a.length:Int))(d:Nat):(gL i c a)[d]?=if(d:Int)=c then a[i.toNat]? else if(d:Int)=i then a[c.toNat]? else a[d]? :=by
 have h:a[i.toNat]?=c5 (a[i.toNat]'(by omega)):=c4 (by omega);have g:a[c.toNat]?=c5 (a[c.toNat]'(by omega)):=c4 (by omega);unfold gL;rw[h,g];dsimp only;rw[ez,ez,dt]
 by_cases e:(d:Int)=c
 .rw[if_pos e,if_pos (by omega),if_pos (by omega)]
 .rw[if_neg e,if_neg (by omega)]
  by_cases f:(d:Int)=i
  .rw[if_pos f,if_pos (by omega),if_pos (by omega)]
  .rw[if_neg f,if_neg (by omega)]
def akY{d:Type}{a:List d}{i c:Int}:(gL i c a).length=a.length:=by
 unfold gL
 split
 .rw[dt,dt]
 .rfl
def jK.later{x a:aM}(h:jK m x)(c:a.an=x.an)(ht:x.aa0<=a.aa0)(k:a.aa0<=2147483648):jK m a:=by
 obtain⟨⟨d,l,e⟩,j⟩:=h;refine⟨⟨by rw[c];exact d,⟨by omega,k⟩,by rw[c];exact e⟩,?_⟩
 rw[c];exact EF j ht
def aan.Np(J:Ghs n np G T)(D:fM n np b)(h:aan m G T bo b)(X:0<=T/\T<=2147483648){i c:Int}(L:(G.tr i.toNat).pl T=(G.tr c.toNat).pl T)(B:AY m i c T n np b b'):aan m G T (gL i c bo) b':=by
 obtain⟨aF,F,_,aI,an,ak⟩:=B.ex;obtain⟨hi,aR,aD,_⟩:=B.ix;have rz:∀{a:ay} {k:Nat} {l:aM},(kH c T (kH i T a.aH))[k]?=c5 l->∃d,a.aH[k]?=c5 d/\l.an=d.an/\d.aa0<=l.aa0/\(l.aa0=d.aa0\/l.aa0=T)/\(((k:Int)=i\/(k:Int)=c)->T<=l.aa0):=λ{a k l} o=>by
  obtain⟨aJ,a1,av,aQ,aP,af⟩:=F3 o;obtain⟨d,ax,aB,aE,aL,ae⟩:=F3 a1;refine⟨d,ax,av.trans aB,by omega,by omega,λw=>?_⟩
  rcases w with w |w
  .have:=ae w X.2;omega
  .exact af w X.2
 have S:∀t,t∈b'.aA->∀x,x∈t.aH->jK m x/\x.aa0<=T:=by
  refine F.b (λx=>jK m x/\x.aa0<=T) (λx E _ _ y aa=>⟨y.1.join aa.1 B.v.fN,by show max x.aa0 E.aa0<=T;have:=y.2;have:=aa.2;omega⟩) λa j x y=>?_
  rcases ak a j with j |⟨ar,ac,rfl⟩
  .exact h.wok a j x y
  .obtain⟨k,o,rfl⟩:=dd.1 y;obtain⟨d,c1,K,R,au,_⟩:=rz (c4 o);have:=h.wok ar ac d (fC c1);exact⟨this.1.later K R (by omega),by omega⟩
 refine⟨S,?_⟩
 obtain⟨a,j,ht,o⟩:=h.tru;obtain⟨⟨aK,aO⟩,ao⟩:=D.mX a j;have ex:a.aH[i.toNat]?=c5 (a.aH[i.toNat]'(by omega)):=c4 (by omega);have C:a.aH[c.toNat]?=c5 (a.aH[c.toNat]'(by omega)):=c4 (by omega);generalize a.aH[i.toNat]'(by omega)=x at ex;generalize a.aH[c.toNat]'(by omega)=E at C;obtain⟨U,aj⟩:=o _ x ex;obtain⟨V,ah⟩:=o _ E C;have Q:∀{k:Nat} {z},a.aH[k]?=c5 z->Snd (rL m) (G.tr k) T z.aa0 (fn z.an)->(G.tr k).pl T∈dz z T:=λ{k z} M sz=>by
  have A:=J.oV k (D.lt j M).1 T (by omega) (c7 _);have B:=(J.ok k (D.lt j M).1).L3 T (by omega) (c7 _);have:=sz.ok T sz.le (c7 _);exact Sq.2 ⟨A.1,by rw[(D.lt j M).2];exact A.2,by omega⟩
 obtain⟨t,P,ad,ag⟩:=F.a _ (an a x E j ex C ⟨_,Q ex U,by rw[L];exact Q C V⟩);have aw:=(F.c t P).1;refine⟨t,P,by rw[ad];show gL i c a.aw=_;rw[ht],λk Z H=>?_⟩
 have ai:k<n:=by have:=c9 H;have:=aw.1;omega
 have aA:k<(rU i c T a).aH.length:=by show k<(kH c T (kH i T a.aH)).length;rw[ID,ID];omega
 have I:(rU i c T a).aH[k]?=c5 ((rU i c T a).aH[k]):=c4 aA;generalize (rU i c T a).aH[k]=l at I;obtain⟨aG,az⟩:=ag k l Z I H;obtain⟨d,c1,K,R,au,W⟩:=rz I;obtain⟨Y,aC⟩:=o k d c1;have al:=(S t P Z (fC H)).2;have A:=J.oV k ai;have aH:=Y.lo;refine⟨Y.raise (by omega) al λu ap N=>?_,λO s u ap N=>?_⟩
 .have ab:=A u (by omega) N;have:=az _ ab.1 ab.2;rw[K] at this;exact this
 .have aN:bo.length=n:=by rw[<-ht];exact ao
  rw[acL (by omega) (by omega)] at s
  split at s
  .rename_i aq;have:=W (.inr aq);have e:u=T:=by omega
   rw[e,aj O s T U.le (c7 _),L,show c.toNat=k by omega]
  .split at s
   .rename_i am;have:=W (.inl am);have e:u=T:=by omega
    rw[e,ah O s T V.le (c7 _), <-L,show i.toNat=k by omega]
   .exact aC O s u (by omega) N
def ai8(p:Ghs n np G T)(h:0<=T){i k:vG}{a:Nat}(q:a<n){c:aM}{g:Int->Int}(f:Snd i (G.tr a) T c.aa0 (fn c.an))(o:g ((G.tr a).pl T)<=fn c.an ((G.tr a).pl T)):Snd k (G.tr a) T T g:=
 ⟨h,c7 _,λe d j=>absurd d (by omega),λe d j=>by
  have l:e=T:=by omega
  rw[l];exact hQ o (f.ok T f.le (c7 _))⟩
def aan.renew(t:Ghs n np G T)(K:fM n np b)(h:aan m G T bo b)(C:0<=T){m':ak}(L:m'.ai.length=np)(H:gG (λx d=>mP m' x T d) b.aA b'.aA):aan m' G T bo b':=by
 obtain⟨O,u⟩:=H;refine⟨λQ M d a=>?_,?_⟩
 .obtain⟨i,hi,rfl⟩:=dd.1 M;obtain⟨k,j,rfl⟩:=dd.1 a;have s:b.aA[i]?=c5 (b.aA[i]'(by omega)):=c4 _;obtain⟨_,r2,e⟩:=u i _ _ s (c4 hi);have c:(b.aA[i]'(by omega)).aH[k]?=c5 ((b.aA[i]'(by omega)).aH[k]'(by omega)):=c4 _;have:=e k _ _ c (c4 j);exact⟨this.new,by rw[this.time];exact c7 _⟩
 .obtain⟨P,A,ht,j⟩:=h.tru;obtain⟨i,hi,rfl⟩:=dd.1 A;have s:=c4 hi;have c:b'.aA[i]?=c5 (b'.aA[i]'(by omega)):=c4 _;obtain⟨r1,r2,e⟩:=u i _ _ s c;refine⟨_,fC c,by rw[r1];exact ht,λk d a=>?_⟩
  have R:=c9 a;have o:b.aA[i].aH[k]?=c5 (b.aA[i].aH[k]'(by omega)):=c4 _;have l:=e k _ d o a;obtain⟨B,N⟩:=j k _ o;have w:=(K.lt A o).1;have y:=t.oV k w T C (c7 _);refine⟨?_,λJ F D I E=>N J F D (by rw[l.time] at I;have:=B.le;omega) E⟩
  rw[l.time];exact ai8 t C w B (l.le _ y.1 (by rw[L];exact y.2))
def aan.shut(w:Ghs n np G T)(aa:fM n np b)(h:aan m G T bo b)(D:0<=T){I:List Int}(ad:m.ai.length=np)(X:Ff m b I T n np b'):∃c,ki m I c/\aan c G T bo b':=by
 obtain⟨c,t,y,⟨ah,H⟩,u⟩:=X.ex;have J:∀a,a∈b'.aA->∀x,x∈a.aH->jK c x/\x.aa0<=T:=by
  refine u.b (λx=>jK c x/\x.aa0<=T) (λx ab _ _ L P=>⟨L.1.join P.1 (adg y),by show max x.aa0 ab.aa0<=T;have:=L.2;have:=P.2;omega⟩) λa e s d=>?_
  obtain⟨i,hi,rfl⟩:=dd.1 e;obtain⟨k,C,rfl⟩:=dd.1 d;have E:b.aA[i]?=c5 (b.aA[i]'(by omega)):=c4 _;obtain⟨_,r2,B⟩:=H i _ _ E (c4 hi);have j:(b.aA[i]'(by omega)).aH[k]?=c5 ((b.aA[i]'(by omega)).aH[k]'(by omega)):=c4 _;have:=B k _ _ j (c4 C);exact⟨this.new,by rw[this.time];exact c7 _⟩
 refine⟨c,y,J,?_⟩
 obtain⟨ai,K,ht,C⟩:=h.tru;obtain⟨i,hi,rfl⟩:=dd.1 K;have E:=c4 hi;have j:t[i]?=c5 (t[i]'(by omega)):=c4 _;obtain⟨r1,r2,B⟩:=H i _ _ E j;obtain⟨a,e,Q,R⟩:=u.a _ (fC j);have ac:=(u.c a e).1;have al:=(aa.mX _ K).1.1;refine⟨a,e,by rw[Q,r1];exact ht,λk s d=>?_⟩
 have am:=c9 d;have A:k<n:=by have:=ac.1;omega
 have O:b.aA[i].aH[k]?=c5 (b.aA[i].aH[k]'(by omega)):=c4 _;have F:(t[i]'(by omega)).aH[k]?=c5 ((t[i]'(by omega)).aH[k]'(by omega)):=c4 _;have N:=B k _ _ O F;obtain⟨S,ae⟩:=R k _ s F d;obtain⟨o,af⟩:=C k _ O;have l:=w.oV k A T D (c7 _);have aj:=(J a e s (fC d)).2;have M:s.aa0=T:=by rw[N.time] at S;omega
 have ag:=(w.ok k A).L3 T D (c7 _);have ak:=o.ok T o.le (c7 _);refine⟨?_,λZ W U Y V=>af Z W U (by rw[M] at Y;have:=o.le;omega) V⟩
 rw[M];refine ai8 w D A o (hQ (ae _ l.1 l.2) (N.le _ l.1 (by rw[y.pl,ad];exact l.2) (by omega)))
def Gh.tick(G:Gh)(T d:Int)(bo:List Int)(f:Nat->Int×Int):Gh:=
 {G with tr:=λk=>(G.tr k).ext T d (f k).1 (f k).2,tp:=λa c=>if c<=T then G.tp a c else if a∈bo then((G.tr (bo.idxOf a)).ext T d (f (bo.idxOf a)).1 (f (bo.idxOf a)).2).pl c else -1}
def agw{c:List Int}(e:c.Nodup){a:Nat}{d:Int}(g:c[a]?=c5 d):c.idxOf d=a:=by
 obtain⟨f,rfl⟩:=ef.1 g;exact e.idxOf_getElem a f
def Ghs.tick(h:Ghs n np G T)(j:0<=T){a:Int}(l:T<a)(w:a<=SM){f:Nat->Int×Int}(o:∀k,k<n->(0<=(f k).1/\(f k).1<(np:Int))/\0<=(f k).2/\(f k).2<=a):Ghs n np (G.tick T a bo f) a:=by
 refine⟨λk d=>(h.ok k d).ext j l w (o k d).2,λk d c u x=>?_⟩
 show 0<=((G.tr k).ext T a (f k).1 (f k).2).pl c/\((G.tr k).ext T a (f k).1 (f k).2).pl c<(np:Int)
 by_cases e:c<=T
 .rw[(Tr.abS e).1];exact h.oV k d c u e
 .by_cases s:c<a
  .rw[(Tr.ab8 (by omega) s).1];exact h.oV k d T j (c7 _)
  .have t:c=a:=by omega
   rw[t,(Tr.acW l).1];exact(o k d).1
def aan.tick(w:Ghs n np G T)(D:fM n np b)(h:aan m G T bo b){a:Int}(A:T<a)(y:a<=SM)(u:bo.Nodup){f:Nat->Int×Int}
 (C:∀k,k<n->((f k).1=(G.tr k).pl T/\(f k).2=(G.tr k).L3 T)\/∃z,rL m ((G.tr k).pl T) (f k).1 z/\(G.tr k).L3 T+z<=a/\(f k).2=a):aan m (G.tick T a bo f) a bo b:=by
 refine⟨λo d x j=>⟨(h.wok o d x j).1,by have:=(h.wok o d x j).2;omega⟩,?_⟩
 obtain⟨o,d,ht,F⟩:=h.tru;refine⟨o,d,ht,λk x j=>?_⟩
 obtain⟨E,H⟩:=F k x j;have t:=(D.lt d j).1;refine⟨E.tick (w.ok k t) (h.wok o d x (fC j)).1.2 A y (C k t),λl s c B I=>?_⟩
 show(if c<=T then G.tp l c else if l∈bo then((G.tr (bo.idxOf l)).ext T a (f (bo.idxOf l)).1 (f (bo.idxOf l)).2).pl c else -1)=((G.tr k).ext T a (f k).1 (f k).2).pl c
 by_cases e:c<=T
 .rw[if_pos e,(Tr.abS e).1];exact H l s c B e
 .rw[if_neg e,if_pos (fC s),agw u s]
def aan.now(j:Ghs n np G T)(t:fM n np b)(h:aan m G T bo b)(d:0<=T):∃a,a∈b.aA/\a.aw=bo/\∀k x,a.aH[k]?=c5 x->(G.tr k).pl T∈dz x T:=by
 obtain⟨a,e,ht,u⟩:=h.tru;refine⟨a,e,ht,λk x l=>?_⟩
 obtain⟨s,w⟩:=u k x l;have c:=t.lt e l;have o:=j.oV k c.1 T d (c7 _);have y:=(j.ok k c.1).L3 T d (c7 _);have:=s.ok T s.le (c7 _);exact Sq.2 ⟨o.1,by rw[c.2];exact o.2,by omega⟩
end
def agx{b:ak}(j:cP b){i p:Int}(a:0<=mQ b i p):rL b p (other b i p) (mQ b i p)/\0<=other b i p/\other b i p<(b.ai.length:Int):=by
 by_cases h0:0<=i
 rotate_left
 .unfold mQ at a;rw[if_neg h0] at a;omega
 cases d:b.af[i.toNat]? with
 |none=>unfold mQ at a;rw[if_pos h0,d] at a;dsimp only at a;omega
 |some r=>
  have g:=(j.2.2.2 r (fC d)).1;have h:((i.toNat:Nat):Int)=i:=by omega
  unfold mQ at a⊢;unfold other;rw[if_pos h0,d] at a;rw[if_pos h0,if_pos h0,d];dsimp only at a⊢
  by_cases c:p=r.an
  .rw[if_pos c] at a;rw[if_pos c,if_pos c];exact⟨⟨i.toNat,r,false,d,by rw[h],a,by rw[c];rfl,rfl⟩,g.2.2.1,g.2.2.2.1⟩
  .rw[if_neg c] at a;rw[if_neg c,if_neg c]
   by_cases f:p=r.To
   .rw[if_pos f] at a;rw[if_pos f,if_pos f];exact⟨⟨i.toNat,r,true,d,by rw[h],a,by rw[f];rfl,rfl⟩,g.1,g.2.1⟩
   .rw[if_neg f] at a;omega
def ki.same{m c:ak}{l:List Int}(h:ki m l c){i:Int}(h0:0<=i)(hi:i∉l):c.af[i.toNat]?=m.af[i.toNat]? :=by
 have k:=h.len;cases d:m.af[i.toNat]? with
 |none=>
  have:=List.getElem?_eq_none_iff.1 d;exact gv (by omega)
 |some r=>
  have:=c9 d;have e:=c4 (l:=c.af) (i:=i.toNat) (by omega);have j:((i.toNat:Nat):Int)=i:=by omega
  rcases h.off i.toNat r _ d e with⟨a,_⟩ |⟨_,a⟩
  .rw[e,a]
  .rw[j] at a;exact absurd a hi
def ki.ad2{m c k:ak}{l:List Int}(h:ki m l c)(o:ki m l k):k=c:=by
 have w:=h.len;have u:=o.len;have e:k.af=c.af:=by
  refine List.ext_getElem? λi=>?_
  by_cases hi:i<m.af.length
  .have er:=c4 hi;have t:=c4 (l:=c.af) (i:=i) (by omega);have a:=c4 (l:=k.af) (i:=i) (by omega);rw[t,a];rcases h.off i _ _ er t with⟨a1,s⟩ |⟨a1,s⟩
   .rcases o.off i _ _ er a with⟨d,j⟩ |⟨d,j⟩
    .rw[a1,d]
    .exact absurd j s
   .rcases o.off i _ _ er a with⟨d,j⟩ |⟨d,j⟩
    .exact absurd s j
    .rw[a1,d]
  .rw[gv (by omega),gv (by omega)]
 have a:=h.pl.trans o.pl.symm;cases c;cases k
 dsimp only at e a;rw[e,a]
def ki.arc{m a:ak}{l:List Int}(h:ki m l a){i p:Int}(hi:i∉l)(c:0<=mQ m i p):rL a p (other m i p) (mQ m i p):=by
 by_cases h0:0<=i
 rotate_left
 .unfold mQ at c;rw[if_neg h0] at c;omega
 have k:∀b,wT a i b 6 9 12=wT m i b 6 9 12:=λb=>by
  unfold wT;rw[h.same h0 hi]
  by_cases d:cP m/\0<=i
  .rw[if_pos d,if_pos ⟨adg h,h0⟩];cases m.af[i.toNat]? with
   |none=>rfl
   |some r=>dsimp only;unfold wt T.fy jo;rw[h.pl]
  .exact absurd ⟨h.fN,h0⟩ d
 have j:mQ a i p=mQ m i p:=by
  unfold mQ;rw[h.same h0 hi,k,k]
 have o:other a i p=other m i p:=by
  unfold other;rw[h.same h0 hi]
 have:=(agx (adg h) (i:=i) (p:=p) (by rw[j];exact c)).1;rw[j,o] at this;exact this
structure af7 (x:aB) (G:Gh) (L:Nat) (k:Nat) (rd:aS):Prop where
 lks:aaA (λq=>q∈rd.ai) rd.dX rd.dY G.tp x.aa0 (G.lk k) (G.c k)
 nn:∀i,i<G.c k->0<=(G.lk k i).num/\0<=(G.lk k i).t/\(G.lk k i).num<=2*(L:Int)
 num:∃a l row,x.cn[k]?=c5 a/\x.cf[k]?=c5 l/\x.bp[k]?=c5 row/\((G.c k=0/\a= -1/\l= -1)\/(0<G.c k/\a=(G.lk k (G.c k -1)).num/\l=(G.lk k (G.c k -1)).t))/\
  ∀(i:Nat) X,x.aw[i]?=c5 X->∃v,row[i]?=c5 v/\0<=v/\v<=rd.dY/\(v.toNat<G.c k->G.tp X (G.lk k (G.c k -1 -v.toNat)).t∈rd.ai->X∈(G.lk k (G.c k -1 -v.toNat)).bo)
def Rec(c:List aS)(G:Gh)(a:Nat)(r:aT):Prop:=r.agX=(a:Int)/\∃(b:aS) (i:Nat),c[a]?=c5 b/\i<G.c a/\(G.lk a i).num=r.aj6/\(G.lk a i).bo=r.aw/\(G.lk a i).t -b.cR<=r.aa0/\r.aa0<=(G.lk a i).t+b.cR
structure L4 (n np:Nat) (G:Gh) (L:Nat) (p:aE):Prop where
 gs:Ghs n np G p.au.aa0
 t0:0<=p.au.aa0/\p.au.aa0<=2147483648
 now:∀(k:Nat) w,p.au.aN[k]?=c5 w->(G.tr k).pl p.au.aa0=w.abG/\(0<=w.akw->0<=mQ p.ao w.akw w.abG/\(G.tr k).L3 p.au.aa0+mQ p.ao w.akw w.abG<=p.au.aa0+w.ami)/\aas p.aa2 w.akw
 yp:p.au.aw.length=n/\p.au.aw.Nodup
 off:∀X,X∉p.au.aw->∀u,G.tp X u= -1
 jR:∀(k:Nat) rd,p.au.aQ[k]?=c5 rd->lS np rd/\af7 p.au G L k rd
 abA:∀(k:Nat) r a,p.cq[k]?=c5 r->p.au.cn[k]?=c5 a->0<=a->Rec p.au.aQ G k r
 heard:∀r,r∈p.bZ->∃k:Nat,Rec p.au.aQ G k r
 hZ:aan p.ao G p.au.aa0 p.au.aw p.bw
 je:p.bq.aA≠[]->p.aa2.Out=true/\∃bm,ki p.ao p.aa2.af bm/\aan bm G p.au.aa0 p.au.aw p.bq
section
variable {n np:Nat}{G:Gh}{L:Nat}{p:aE}{e:bH}
def af7.more{x:aB}{k:Nat}{rd:aS}(h:af7 x G L k rd):af7 x G (L+1) k rd:=
 ⟨h.lks,λi hi=>by have:=h.nn i hi;exact⟨this.1,this.2.1,by have:=this.2.2;omega⟩,h.num⟩
def L4.more(h:L4 n np G L p):L4 n np G (L+1) p:={h with jR:=λk rd a=>⟨(h.jR k rd a).1,(h.jR k rd a).2.more⟩}
def L4.car(l:dW n np p)(h:L4 n np G L p){k:Nat}{a:Int}(d:p.au.aw[k]?=c5 a):G.tp a p.au.aa0=(G.tr k).pl p.au.aa0:=by
 obtain⟨c,m,ht,o⟩:=h.hZ.tru;have u:k<n:=by have:=c9 d;have:=h.yp.1;omega
 have t:=(l.hZ.mX c m).1.1;obtain⟨s,j⟩:=o k _ (c4 (show k<c.aH.length by omega));exact j a d _ s.le (c7 _)
def aaA.ext{t:Int->Prop}{s u T m:Int}{tp k:Int->Int->Int}{lk:Nat->abc}{c:Nat}(h:aaA t s u tp T lk c)(B:T<=m)(j:∀a d,d<=T->k a d=tp a d):aaA t s u k m lk c:=
 ⟨λi hi=>by have:=h.bG i hi;omega,λi a hi A=>by rw[j a _ (h.bG i hi)];exact h.seen i a hi A,h.adj,λa i hi=>by
  obtain⟨o,w,y,x⟩:=h.win a i hi;exact⟨o,w,y,λl=>x (by rw[j a _ (h.bG o (by omega))] at l;exact l)⟩⟩
def aar(p:aE)(G:Gh)(c:Int)(a:Nat):Int×Int:=match p.au.aN[a]? with
 |some b=>if ¬b.akw<0/\b.ami -c<=0 then(other p.ao b.akw b.abG,p.au.aa0+c) else((G.tr a).pl p.au.aa0,(G.tr a).L3 p.au.aa0)
 |none=>((G.tr a).pl p.au.aa0,(G.tr a).L3 p.au.aa0)
def aas.out{k:bA}(a:ff k)(d:k.Out=true){r:Int}(h:aas k r):r∉k.af:=λc=>by
 obtain⟨i,hi,rfl⟩:=dd.1 c;have o:=a.2.1;have e:=c4 (l:=k.aa2) (i:=i) (by omega);have j:=h i _ (c4 hi) e;have m:=a.2.2.2 d _ (fC e);omega
def asG(k:dW n np p)(f:L4 n np G L p)(ak:fw p.au){c:Int}(h0:0<c)(A:p.au.aa0+c<=2147483648):L4 n np (G.tick p.au.aa0 (p.au.aa0+c) p.au.aw (aar p G c)) L {p with au:=x7 p.au c}:=by
 have C:=f.t0;have M:=k.fN;have aw:=k.gk;have H:∀b,b<n->∃d,p.au.aN[b]?=c5 d/\sq p.ao d:=λb g=>by
  have N:b<p.au.aN.length:=by rw[k.iz];exact g
  exact⟨_,c4 N,by rw[<-M];exact ak.2.2.2.2.2.2.2.2.2 _ (dv N)⟩
 have W:∀b,b<n->0<=(G.tr b).L3 p.au.aa0/\(G.tr b).L3 p.au.aa0<=p.au.aa0:=λb g=>(f.gs.ok b g).L3 _ C.1 (c7 _)
 have T:∀b,b<n->(0<=(aar p G c b).1/\(aar p G c b).1<(np:Int))/\0<=(aar p G c b).2/\(aar p G c b).2<=p.au.aa0+c:=λb g=>by
  obtain⟨d,h,X⟩:=H b g;obtain⟨t,r,s⟩:=f.now b d h;unfold aar;rw[h];dsimp only;have q:=f.gs.oV b g _ C.1 (c7 _);have ac:=W b g
  split
  .rename_i ae;have:=(agx k.gq (r (by omega)).1).2;exact⟨by dsimp only;omega,by dsimp only;omega,c7 _⟩
  .exact⟨q,ac.1,by dsimp only;omega⟩
 have O:∀b,b<n->(((aar p G c b).1=(G.tr b).pl p.au.aa0/\(aar p G c b).2=(G.tr b).L3 p.au.aa0)\/∃d,p.au.aN[b]?=c5 d/\0<=d.akw/\0<=mQ p.ao d.akw d.abG/\(aar p G c b).1=other p.ao d.akw d.abG/\(G.tr b).pl p.au.aa0=d.abG/\(G.tr b).L3 p.au.aa0+mQ p.ao d.akw d.abG<=p.au.aa0+c/\(aar p G c b).2=p.au.aa0+c/\aas p.aa2 d.akw):=λb g=>by
  obtain⟨d,h,X⟩:=H b g;obtain⟨t,r,s⟩:=f.now b d h;unfold aar;rw[h];dsimp only
  split
  .rename_i ae;have:=r (by omega);exact .inr ⟨d,rfl,by omega,this.1,rfl,t,by omega,rfl,s⟩
  .exact .inl ⟨rfl,rfl⟩
 have u:p.au.aa0<p.au.aa0+c:=by omega
 have I:∀j m,m<=p.au.aa0->(G.tick p.au.aa0 (p.au.aa0+c) p.au.aw (aar p G c)).tp j m=G.tp j m:=λj m ar=>if_pos ar
 refine⟨f.gs.tick C.1 u A T,⟨by show 0<=p.au.aa0+c;omega,A⟩,λb af aq=>?_,f.yp,λj x m=>?_,λb K ad=>?_,f.abA,f.heard,?_,λV=>?_⟩
 .have o:(p.au.aN.map (uf p.au.ao c))[b]?=c5 af:=aq;rw[ee] at o;cases h:p.au.aN[b]? with
  |none=>rw[h] at o;cases o
  |some d=>
   rw[h] at o;injection o with o
   subst o;have g:b<n:=by have:=c9 h;rw[k.iz] at this;exact this
   obtain⟨t,r,s⟩:=f.now b d h;have Q:=(Tr.acW (tr:=G.tr b) (p:=(aar p G c b).1) (a:=(aar p G c b).2) u);show((G.tr b).ext p.au.aa0 (p.au.aa0+c) (aar p G c b).1 (aar p G c b).2).pl (p.au.aa0+c)=_/\(_->_/\((G.tr b).ext p.au.aa0 (p.au.aa0+c) (aar p G c b).1 (aar p G c b).2).L3 (p.au.aa0+c)+_<=p.au.aa0+c+_)/\_
   rw[Q.1,Q.2,M];unfold aar uf;rw[h];dsimp only
   by_cases q:d.akw<0
   .rw[if_neg (by omega),if_pos q];exact⟨t,λl=>absurd l (by omega),s⟩
   .rw[if_neg q]
    by_cases w:d.ami -c<=0
    .rw[if_pos ⟨q,w⟩,if_pos w];refine⟨rfl,λl=>absurd l (show ¬(0:Int)<=-1 by decide),λi z R _=>?_⟩
     have:=(k.jY.mem (fC R)).1;have an:p.aa2.af[i]?=c5 (-1):=R;have:=(k.jY.mem (fC an)).1;omega
    .rw[if_neg (λl=>w l.2),if_neg w];have:=r (by omega);exact⟨t,λ_=>⟨this.1,by dsimp only;omega⟩,s⟩
 .show(if m<=p.au.aa0 then G.tp j m else if j∈p.au.aw then _ else -1)= -1
  rw[if_neg (show j∉p.au.aw from x)]
  split
  .exact f.off j x m
  .rfl
 .obtain⟨ao,B⟩:=f.jR b K ad;refine⟨ao,aaA.ext B.lks (by show _<=p.au.aa0+c;omega) I,B.nn,?_⟩
  obtain⟨a,Y,row,aj,ag,al,Z,ah⟩:=B.num;refine⟨a,Y,row,aj,ag,al,Z,λi j x=>?_⟩
  obtain⟨v,aa,U,ai,am⟩:=ah i j x;refine⟨v,aa,U,ai,λP E=>am P ?_⟩
  have av:v.toNat<G.c b:=P;have S:(G.tick p.au.aa0 (p.au.aa0+c) p.au.aw (aar p G c)).tp j (G.lk b (G.c b -1 -v.toNat)).t∈K.ai:=E;have y:=B.lks.bG (G.c b -1 -v.toNat) (by omega);rw[I j _ y] at S;exact S
 .refine f.hZ.tick f.gs k.hZ u A f.yp.2 λb g=>?_
  rcases O b g with l |⟨d,h,ap,F,D,w4,w5,w6,w7⟩
  .exact .inl l
  .exact .inr ⟨_,by rw[D,w4];exact(agx k.gq F).1,w5,w6⟩
 .obtain⟨y,ab,J,E⟩:=f.je V;refine⟨y,ab,J,E.tick f.gs k.je u A f.yp.2 λb g=>?_⟩
  rcases O b g with l |⟨d,h,ap,F,D,w4,w5,w6,w7⟩
  .exact .inl l
  .exact .inr ⟨_,by rw[D,w4];exact J.arc (w7.out k.key y) F,w5,w6⟩
def alj(l:dW n np p)(a:L4 n np G L p){f r i:Int}{c:bC}(y:0<=f)(z:0<=i)(j:p.au.aN[f.toNat]?=c5 c)(m:0<=mQ p.au.ao r c.abG)(o:aas p.aa2 r):L4 n np G L {p with au:={p.au with aN:=p.au.aN.set f.toNat ⟨c.abG,r,mQ p.au.ao r c.abG+i⟩}}:=by
 refine⟨a.gs,a.t0,λd k u=>?_,a.yp,a.off,λd g h=>⟨(a.jR d g h).1,(a.jR d g h).2.lks,(a.jR d g h).2.nn,(a.jR d g h).2.num⟩,a.abA,a.heard,a.hZ,a.je⟩
 have b:(p.au.aN.set f.toNat ⟨c.abG,r,mQ p.au.ao r c.abG+i⟩)[d]?=c5 k:=u;rw[ez] at b
 split at b
 .rename_i e
  split at b
  .injection b with b
   subst b;subst e;obtain⟨q,w,x⟩:=a.now _ c j;have s:f.toNat<n:=by have:=c9 j;rw[l.iz] at this;exact this
   have v:=(a.gs.ok _ s).L3 _ a.t0.1 (c7 _);have t:=l.fN;rw[t] at m⊢;exact⟨q,λ_=>⟨m,by dsimp only;omega⟩,o⟩
  .cases b
 .exact a.now d k b
end
section
variable {n np:Nat}{G:Gh}{L:Nat}{p:aE}{e:bH}
def Gh.look(G:Gh)(k:Nat)(x:abc):Gh:={G with lk:=λa i=>if a=k/\i=G.c k then x else G.lk a i,c:=λa=>if a=k then G.c k+1 else G.c a}
def Gh.ae5{G:Gh}{k:Nat}{x:abc}{a i:Nat}(h:a≠k\/i≠G.c k):(G.look k x).lk a i=G.lk a i:=if_neg (by omega)
def Gh.acH{G:Gh}{k:Nat}{x:abc}:(G.look k x).lk k (G.c k)=x:=if_pos ⟨rfl,rfl⟩
def Gh.abU{G:Gh}{k:Nat}{x:abc}:(G.look k x).c k=G.c k+1:=if_pos rfl
def Gh.agk{G:Gh}{k:Nat}{x:abc}{a:Nat}(h:a≠k):(G.look k x).c a=G.c a:=if_neg h
def Rec.look{rs:List aS}{k a:Nat}{x:abc}{r:aT}(h:Rec rs G a r):Rec rs (G.look k x) a r:=by
 obtain⟨c,rd,i,l,d,m,o,j,s⟩:=h;have e:(G.look k x).lk a i=G.lk a i:=Gh.ae5 (by
  by_cases e:a=k
  .subst e;exact .inr (by omega)
  .exact .inl e)
 refine⟨c,rd,i,l,?_,by rw[e];exact m,by rw[e];exact o,by rw[e];exact j,by rw[e];exact s⟩
 by_cases e:a=k
 .subst e;rw[Gh.abU];omega
 .rw[Gh.agk e];exact d
def arU(ad:dW n np p)(d:L4 n np G L p)(a9:L<=1000){a:Nat}{aV:Int}{h:aS}{ae:aB}{r:aT}(x:cf p.au a aV h ae r):∃aL,L4 n np aL (L+1) {p with au:=ae,cq:=p.cq.set a r}:=by
 obtain⟨row,X,ak,z,ac,P,I,af,S,aC,aE,a5,aG,a0⟩:=x.ex;obtain⟨aa,s⟩:=d.jR a h x.eZ;obtain⟨ba,bb,bc,E,C,F,an,al⟩:=s.num;rw[I] at E;injection E with E;subst E
 rw[af] at C;injection C with C;subst C
 rw[P] at F;injection F with F;subst F
 have aX:=d.t0;have a6:=x.QX;have D:r.aj6=z+(if 0<=ac/\h.dX<p.au.aa0 -ac then 2 else 1)/\-1<=z/\z<=2*(L:Int):=by
  have ap: -1<=z/\z<=2*(L:Int):=by
   rcases an with⟨_,q,_⟩ |⟨a8,q,_⟩
   .omega
   .have:=s.nn (G.c a -1) (by omega);omega
  refine⟨?_,ap⟩
  rw[aC]
  split <;> exact hz (by omega) (by omega)
 obtain⟨D,bd⟩:=D;have aZ:0<=r.aj6/\r.aj6<=2*(L:Int)+2:=by rw[D];split <;> omega
 have V:∀c,c∈r.aw↔c∈ak:=λc=>by rw[aG];exact(uK ak).mem_iff
 let t:abc:=⟨p.au.aa0,r.aj6,r.aw⟩
 have M:∀{i:Nat} {j:bC} {c:Int},p.au.aN[i]?=c5 j->p.au.aw[i]?=c5 c->G.tp c p.au.aa0=j.abG:=λ{i j c} l g=>by rw[d.car ad g,(d.now i j l).1]
 have ah:∀{i:Nat} {c:Int},p.au.aw[i]?=c5 c->∃j,p.au.aN[i]?=c5 j:=λ{i c} g=>by
  have P:=c9 g;have I:=d.yp.1;exact⟨_,c4 (show i<p.au.aN.length by rw[ad.iz];omega)⟩
 have aq:=aa.2.2.2.1;have aK:aaA (λq=>q∈h.ai) h.dX h.dY G.tp p.au.aa0 (λi=>if i=G.c a then t else G.lk a i) (G.c a+1):=by
  refine s.lks.look rfl (λc g=>?_) (λT ax ar=>?_) (λc ax=>?_)
  .obtain⟨i,j,l,u,y⟩:=S.tag c ((V c).1 g);rw[M l u];exact y
  .rcases an with⟨q,_⟩ |⟨_,aQ,ql⟩
   .omega
   .have a4:=s.nn (G.c a -1) (by omega);have aj:=s.lks.bG (G.c a -1) (by omega);show(r.aj6=T.num+1/\p.au.aa0 -T.t<=h.dX)\/r.aj6=T.num+2
    rw[ar, <-aQ, <-ql,D]
    split
    .exact .inr rfl
    .exact .inl ⟨rfl,by omega⟩
  .by_cases g:c∈p.au.aw
   .obtain⟨i,w,rfl⟩:=dd.1 g;have u:=c4 w;obtain⟨j,l⟩:=ah u;obtain⟨v,N,R,Y,Q⟩:=S.Hg i j _ l u;obtain⟨aU,k,aI,a3,J⟩:=al i _ u;rw[R] at k;injection k with k;subst k
    rcases Q with⟨_,y⟩ |⟨U,ab⟩
    .refine⟨G.c a,by omega,gb _,λf=>?_⟩
     rw[if_pos rfl] at f⊢;have m:G.tp p.au.aw[i] p.au.aa0∈h.ai:=f;rw[M l u] at m;exact(V _).2 (y m)
    .refine⟨G.c a -1 -v.toNat,by omega,by omega,λf=>?_⟩
     rw[if_neg (by omega)] at f⊢;exact J (by omega) f
   .refine⟨G.c a,by omega,gb _,λf=>?_⟩
    rw[if_pos rfl] at f;have m:G.tp c p.au.aa0∈h.ai:=f;rw[d.off c g] at m;have:=(aa.2.1.mem m).1;omega
 have aR:(G.look a t).lk a=λi=>if i=G.c a then t else G.lk a i:=by
  funext i
  show(if a=a/\i=G.c a then t else G.lk a i)=_
  by_cases e:i=G.c a
  .rw[if_pos ⟨rfl,e⟩,if_pos e]
  .rw[if_neg (λaY=>e aY.2),if_neg e]
 refine⟨G.look a t,?_⟩
 subst a0;refine⟨⟨d.gs.ok,d.gs.oV⟩,d.t0,d.now,d.yp,d.off,λb ai am=>?_,λb A H K a2 h0=>?_,λA K=>?_,⟨d.hZ.wok,d.hZ.tru⟩,λao=>?_⟩
 .obtain⟨a1,Z⟩:=d.jR b ai am;refine⟨a1,?_⟩
  by_cases e:b=a
  .subst e;have B:p.au.aQ[b]?=c5 ai:=am;rw[x.eZ] at B;injection B with B
   subst B;refine⟨by rw[aR,Gh.abU];exact aK,λi w=>?_,?_⟩
   .rw[Gh.abU] at w
    by_cases e:i=G.c b
    .subst e;rw[Gh.acH];exact⟨aZ.1,aX.1,by show r.aj6<=_;omega⟩
    .rw[Gh.ae5 (.inr e)];have:=s.nn i (by omega);exact⟨this.1,this.2.1,by omega⟩
   .have aA:=c9 I;have az:=c9 af;have aF:=c9 P;refine⟨r.aj6,p.au.aa0,X,by show(p.au.cn.set b r.aj6)[b]?=_;rw[ec aA],by show(p.au.cf.set b _)[b]?=_;rw[ec az],by show(p.au.bp.set b X)[b]?=_;rw[ec aF],.inr ⟨by rw[Gh.abU];omega,?_,?_⟩,λi c g=>?_⟩
    .rw[Gh.abU,h9,Gh.acH]
    .rw[Gh.abU,h9,Gh.acH]
    .have g:p.au.aw[i]?=c5 c:=g;obtain⟨j,l⟩:=ah g;obtain⟨v,N,R,Y,Q⟩:=S.Hg i j _ l g;obtain⟨aU,k,aI,a3,J⟩:=al i _ g;rw[R] at k;injection k with k;subst k
     rw[Gh.abU];rcases Q with⟨U,y⟩ |⟨U,ab⟩
     .subst U;refine⟨0,Y,c7 _,aq.1,λ_ f=>?_⟩
      have O:G.c b+1 -1 - (0:Int).toNat=G.c b:=by simp
      rw[O,Gh.acH] at f⊢;have m:G.tp c p.au.aa0∈h.ai:=f;rw[M l g] at m;exact(V _).2 (y m)
     .refine⟨N,Y,by omega,ab,λa7 f=>?_⟩
      have O:G.c b+1 -1 -N.toNat=G.c b -1 -v.toNat:=by omega
      rw[O,Gh.ae5 (.inr (by omega))] at f⊢;exact J (by omega) f
  .have W:(G.look a t).lk b=G.lk b:=by funext i;exact Gh.ae5 (.inl e)
   obtain⟨H,ay,aM,aH,av,aJ,aO,aw⟩:=Z.num;refine⟨by rw[W,Gh.agk e];exact Z.lks,λi w=>?_,?_⟩
   .rw[W];rw[Gh.agk e] at w;have:=Z.nn i w;exact⟨this.1,this.2.1,by omega⟩
   .rw[W,Gh.agk e];exact⟨H,ay,aM,by show(p.au.cn.set a r.aj6)[b]?=_;rw[ea (hS e)];exact aH,by show(p.au.cf.set a _)[b]?=_;rw[ea (hS e)];exact av,by show(p.au.bp.set a X)[b]?=_;rw[ea (hS e)];exact aJ,aO,aw⟩
 .have o:(p.cq.set a r)[b]?=c5 A:=K;have ag:(p.au.cn.set a r.aj6)[b]?=c5 H:=a2
  by_cases e:b=a
  .subst e;have lj:=c9 o;rw[dt] at lj;rw[ec lj] at o;injection o with o
   subst o;refine⟨aE,h,G.c b,x.eZ,by rw[Gh.abU];omega,?_,?_,?_,?_⟩
   .rw[Gh.acH]
   .rw[Gh.acH]
   .rw[Gh.acH];show p.au.aa0 -h.cR<=r.aa0;omega
   .rw[Gh.acH];show r.aa0<=p.au.aa0+h.cR;omega
  .rw[ea (hS e)] at o ag;exact(d.abA b A H o ag h0).look
 .obtain⟨b,aN⟩:=d.heard A K;exact⟨b,aN.look⟩
 .obtain⟨aj,aP,aD,f⟩:=d.je ao;exact⟨aj,aP,aD,f.wok,f.tru⟩
def aq5{d:List aS}{b:Nat}{r:aT}(f:∃a:Nat,Rec d G a r)(g:r.agX=(b:Int)):Rec d G b r:=by
 obtain⟨a,c⟩:=f;have:=c.1;have e:a=b:=by omega
 rw[<-e];exact c
def asF(t:dW n np p)(d:L4 n np G L p)(aU:L<=1000){c:Nat}{h V:aS}{r:aT}{num:Int}{D:List aT}{an:cZ}{b s:aL}(aD:p.au.cn[c]?=c5 num)(aF:0<=num)(aB:p.cq[c]?=c5 r)(S:p.au.aQ[c]?=c5 V)(Q:p.au.aQ[r.agX.toNat]?=c5 h)(aC:∃ao,D=(p.bZ++[r]).drop ao)(l:fv p.ao p.aa2.af p.au.aa0 h V r D (c:Int) p.bw p.bq b s):
 L4 n np G L {p with bZ:=D,cW:=an,bw:=b,bq:=s}:=by
 have W:=d.abA c r num aB aD aF;have aG:h=V:=by
  have e:=W.1;have aA:r.agX.toNat=c:=by omega
  rw[aA,S] at Q;injection Q with Q
  exact Q.symm
 subst aG;have ai:∀g,g∈D->∃a:Nat,Rec p.au.aQ G a g:=λg az=>by
  obtain⟨ao,rfl⟩:=aC;rcases e4.1 (gx az) with u |u
  .exact d.heard g u
  .rw[dk] at u;rw[u];exact⟨c,W⟩
 obtain⟨aj,C⟩:=d.jR c h S;have a6:=d.t0;have al:∀{o:dS},DS r h o->∃Lk,o.an<=Lk/\Lk<=min o.To p.au.aa0/\G.tp o.Tag Lk∈h.ai:=λ{o} B=>by
  obtain⟨aM,a7,aX⟩:=B;obtain⟨_,F,i,m,O,ak,Z,r6,r7⟩:=W;rw[S] at m;injection m with m;subst m
  have aQ:=C.nn i O;have R:=C.lks.bG i O;exact⟨(G.lk c i).t,by omega,by omega,C.lks.seen i _ O (by rw[Z];exact aM)⟩
 have ap:∀{w:Int} {v:dC},nc D (c:Int) w h v->∀s s',v.an<=s->s'<=min v.To p.au.aa0->s<=s'->(∀Y,s<=Y->Y<=s'->G.tp w Y∈h.ai)->s' -s<=(h.dY+1)*h.dX:=λ{w v} k s s' aV aY aR ay=>by
  obtain⟨run,an,a2,⟨au,aK⟩,aq,aP,aZ,a1⟩:=k;have a3:=c9 aq;have ac:∀a,a<run.length->∃i g,run[a]?=c5 g/\i<G.c c/\(G.lk c i).num=g.aj6/\(G.lk c i).bo=g.aw/\(G.lk c i).t -h.cR<=g.aa0/\g.aa0<=(G.lk c i).t+h.cR:=λa f=>by
   have ar:=au _ (dv f);obtain⟨_,F,i,m,O,ak,Z,r6,r7⟩:=aq5 (ai _ ar.1) ar.2.1;rw[S] at m;injection m with m;subst m
   exact⟨i,_,c4 f,O,ak,Z,r6,r7⟩
  let y:Nat->Nat:=λa=>if f:a<run.length then(ac a f).choose else 0
  have H:∀a (f:a<run.length),∃g,run[a]?=c5 g/\y a<G.c c/\(G.lk c (y a)).num=g.aj6/\(G.lk c (y a)).bo=g.aw/\(G.lk c (y a)).t -h.cR<=g.aa0/\g.aa0<=(G.lk c (y a)).t+h.cR:=λa f=>by
   have e:y a=(ac a f).choose:=dif_pos f;rw[e];exact(ac a f).choose_spec
  refine C.lks.agP (X:=w) (by have:=aj.2.2.1;omega) aj.2.2.2.1.1 y (run.length -1) (λa f=>?_) (λa f=>?_) (λa f=>?_) (s:=s) (s':=s') ?_ ?_ ay
  .obtain⟨_,_,u,_⟩:=H a (by omega);exact u
  .obtain⟨M,j,U,J,_⟩:=H a (by omega);obtain⟨m,aE,aO,aJ,_⟩:=H (a+1) (by omega);have u:=aK a M m j aE;have ax:=C.nn _ U;have a0:=C.nn _ aO;rw[J,aJ,u];rw[J] at ax;exact hz (by omega) (by omega)
  .obtain⟨M,j,U,J,aa,_⟩:=H a (by omega);rw[aa];exact(au M (fC j)).2.2
  .obtain⟨M,j,U,J,aa,aH,aN⟩:=H 0 (by omega);rw[aq] at j;injection j with j;subst j
   omega
  .obtain⟨M,j,U,J,aa,aH,aN⟩:=H (run.length -1) (by omega);rw[aP] at j;injection j with j;subst j
   omega
 have am:fM n np b/\fM n np s/\aan p.ao G p.au.aa0 p.au.aw b/\(s.aA≠[]->p.aa2.Out=true/\∃E,ki p.ao p.aa2.af E/\aan E G p.au.aa0 p.au.aw s):=by
  have T:∀{b s:aL},fv p.ao p.aa2.af p.au.aa0 h h r D (c:Int) p.bw p.bq b s->fM n np b/\fM n np s:=λ{b s} l=>by
   obtain⟨⟨av,a4⟩,aI,a5⟩:=l.shape t.gk t.hZ t.bne t.je;exact⟨av,aI⟩
  induction l with
  |nil=>exact⟨t.hZ,t.je,d.hZ,d.je⟩
  |Ls o l B k x=>
   obtain⟨N,K,z,A⟩:=x;obtain⟨Lk,ah,ae,ab⟩:=al B;have:=T (l.Ls o B k);exact⟨this.1,this.2,z.Ls d.gs N ah ae (by omega) ab k,A⟩
  |Lt o E l B I q k x=>
   obtain⟨N,K,z,A⟩:=x;obtain⟨Lk,ah,ae,ab⟩:=al B;have:=T (l.Lt o E B I q k);obtain⟨R,aw,af,ag⟩:=A I;have e:=af.ad2 q;subst e;exact⟨this.1,this.2,z,λ_=>⟨R,_,q,ag.Ls d.gs K ah ae (by omega) ab k⟩⟩
  |abs w v l ad P k x=>
   obtain⟨N,K,z,A⟩:=x;have:=T (l.abs w v ad P k);exact⟨this.1,this.2,z.abs d.gs N t.gk (by omega) (ap P) k,A⟩
  |Lu w v E l ad P I q k x=>
   obtain⟨N,K,z,A⟩:=x;have:=T (l.Lu w v E ad P I q k);obtain⟨R,aw,af,ag⟩:=A I;have e:=af.ad2 q;subst e;exact⟨this.1,this.2,z,λ_=>⟨R,_,q,ag.abs d.gs K (by rw[q.pl];exact t.gk) (by omega) (ap P) k⟩⟩
 exact⟨d.gs,d.t0,d.now,d.yp,d.off,λa F f=>⟨(d.jR a F f).1,(d.jR a F f).2.lks,(d.jR a F f).2.nn,(d.jR a F f).2.num⟩,d.abA,ai,am.2.2.1,am.2.2.2⟩
end
section
variable {n np:Nat}{G:Gh}{L:Nat}{p:aE}{e:bH}
def L4.alter(h:L4 n np G L p){q:aE}(a:q.au=p.au)(c:q.ao=p.ao)(d:q.aa2=p.aa2)(o:q.cq=p.cq)(t:q.bZ=p.bZ)(l:q.bw=p.bw)(A:q.bq=p.bq):L4 n np G L q:=by
 obtain⟨a1,x,y,s,m,w,j,a8,k,u⟩:=h;exact⟨by rw[a];exact a1,by rw[a];exact x,by rw[a,c,d];exact y,by rw[a];exact s,by rw[a];exact m,by rw[a];exact w,by rw[a,o];exact j,by rw[a,t];exact a8,by rw[a,c,l];exact k,by rw[a,c,d,A];exact u⟩
def asv{d:List Int}{i a:Int}(c:0<=i/\i<(d.length:Int))(f:0<=a/\a<(d.length:Int)){k:Int}:k∈gL i a d↔k∈d:=by
 constructor
 .intro g;obtain⟨b,h,rfl⟩:=dd.1 g;have e:=c4 h;rw[acL c f] at e
  split at e
  .exact fC e
  .split at e
   .exact fC e
   .exact fC e
 .intro g;obtain⟨b,h,rfl⟩:=dd.1 g;have ek:=c4 h
  by_cases m:(b:Int)=i
  .have:=acL c f a.toNat;rw[if_pos (by omega),show i.toNat=b by omega,ek] at this;exact fC this
  .by_cases l:(b:Int)=a
   .have:=acL c f i.toNat
    by_cases j:((i.toNat:Nat):Int)=a
    .rw[if_pos j,show i.toNat=b by omega,ek] at this;exact fC this
    .rw[if_neg j,if_pos (by omega),show a.toNat=b by omega,ek] at this;exact fC this
   .have:=acL c f b;rw[if_neg l,if_neg m,ek] at this;exact fC this
def arK{f:List Int}:f.Nodup↔∀(i a:Nat) d,f[i]?=c5 d->f[a]?=c5 d->i=a:=by
 constructor
 .intro b i a d c g;rw[<-agw b c,agw b g]
 .intro b;unfold List.Nodup;rw[h5];intro i a c g j h;have:=b i a _ (c4 c) (by rw[c4 g,h]);omega
def aql{f:List Int}{i j:Int}(o:0<=i/\i<(f.length:Int))(r:0<=j/\j<(f.length:Int))(l:f.Nodup):(gL i j f).Nodup:=by
 rw[arK] at l⊢;intro s b k c a;rw[acL o r] at c a;have d:∀g h:Nat,f[g]?=c5 k->f[h]?=c5 k->g=h:=λg h q m=>l g h k q m
 split at c
 .split at a
  .omega
  .split at a
   .have:=d _ _ c a;omega
   .have:=d _ _ c a;omega
 .split at c
  .split at a
   .have:=d _ _ c a;omega
   .split at a
    .omega
    .have:=d _ _ c a;omega
  .split at a
   .have:=d _ _ c a;omega
   .split at a
    .have:=d _ _ c a;omega
    .exact d _ _ c a
def aqT(g:dW n np p)(c:L4 n np G L p){i a:Int}{l s:bC}{b j:aL}(ai:0<=i/\i<(p.au.aN.length:Int))(aj:0<=a/\a<(p.au.aN.length:Int))(Q:p.au.aN[i.toNat]?=c5 l)(ad:p.au.aN[a.toNat]?=c5 s)(O:l.abG=s.abG)
 (C:AY p.ao i a p.au.aa0 p.au.aN.length p.ao.ai.length p.bw b) (aa:(p.bq.aA=[]/\j=p.bq)\/∃m,p.bq.aA≠[]/\ki p.ao p.aa2.af m/\AY m i a p.au.aa0 p.au.aN.length p.ao.ai.length p.bq j):
 L4 n np G L {p with au:={p.au with aw:=gL i a p.au.aw,bp:=p.au.bp.map (gL i a)},bw:=b,bq:=j}:=by
 have Z:=c.yp.1;have y:=g.iz;have w:0<=i/\i<(p.au.aw.length:Int):=by omega
 have u:0<=a/\a<(p.au.aw.length:Int):=by omega
 have A:(G.tr i.toNat).pl p.au.aa0=(G.tr a.toNat).pl p.au.aa0:=by rw[(c.now _ l Q).1,(c.now _ s ad).1,O]
 rw[y,g.gk] at C;refine⟨c.gs,c.t0,c.now,⟨by show(gL i a p.au.aw).length=n;rw[akY];exact Z,aql w u c.yp.2⟩,λf r P=>c.off f (λV=>r ((asv w u).2 V)) P,λH R S=>?_,c.abA,c.heard,c.hZ.Np c.gs g.hZ c.t0 A C,λJ=>?_⟩
 .obtain⟨ab,x⟩:=c.jR H R S;refine⟨ab,x.lks,x.nn,?_⟩
  obtain⟨X,K,row,W,T,Y,M,k⟩:=x.num;refine⟨X,K,gL i a row,W,T,by show(p.au.bp.map (gL i a))[H]?=_;rw[ee,Y];rfl,M,λq f r=>?_⟩
  have d:(gL i a p.au.aw)[q]?=c5 f:=r;have I:∀h:Nat,h<n->h<row.length:=λh ah=>by
   obtain⟨v,N,_⟩:=k h _ (c4 (show h<p.au.aw.length by omega));exact c9 N
  have af:0<=i/\i<(row.length:Int):=by have:=I i.toNat (by omega);omega
  have ae:0<=a/\a<(row.length:Int):=by have:=I a.toNat (by omega);omega
  rw[acL w u] at d;rw[acL af ae]
  by_cases F:(q:Int)=a
  .rw[if_pos F] at d⊢;exact k _ f d
  .rw[if_neg F] at d⊢
   by_cases z:(q:Int)=i
   .rw[if_pos z] at d⊢;exact k _ f d
   .rw[if_neg z] at d⊢;exact k _ f d
 .have E:j.aA≠[]:=J;rcases aa with⟨t,o⟩ |⟨m,t,o,D⟩
  .rw[o] at E;exact absurd t E
  .rw[y,g.gk] at D;obtain⟨U,ag,B,ac⟩:=c.je t;have e:=B.ad2 o;subst e;exact⟨U,_,B,ac.Np c.gs g.je c.t0 A D⟩
def ahz{c:bA}{f:Int}(k:c.aa2=p.aa2.aa2.set f.toNat 2)(h:c.af=p.aa2.af){d:bC}(g:aas p.aa2 d.akw)(j:∀r,p.aa2.af[f.toNat]?=c5 r->d.akw≠r):aas c d.akw:=λi z a b=>by
 rw[h] at a;rw[k,ez] at b
 split at b
 .rename_i e;subst e;exact absurd rfl (j _ a)
 .exact g i z a b
def arz(b:L4 n np G L p)(a:p.aa2.Out=false):p.bq.aA=[]:=Classical.byContradiction λc=>by
 have:=(b.je c).1;rw[a] at this;cases this
def asx(d:dW n np p){b:bA}(c:b.af=p.aa2.af):aas b (-1):=λi z a _=>by
 rw[c] at a;have:=(d.jY.mem (fC a)).1;omega
def ara{a:ak}{c i q:Int}(f:cP a)(g:cP (cY a c))(h:i≠c)(j:0<=c):mQ (cY a c) i q=mQ a i q:=by
 unfold mQ
 by_cases h0:0<=i
 rotate_left
 .rw[if_neg h0,if_neg h0]
 rw[if_pos h0,if_pos h0];have d:(cY a c).af[i.toNat]?=a.af[i.toNat]? :=by
  unfold cY;dsimp only
  split
  .rw[ea (by omega)]
  .rfl
 have ew:∀b,wT (cY a c) i b 6 9 12=wT a i b 6 9 12:=λb=>by
  unfold wT;rw[if_pos ⟨g,h0⟩,if_pos ⟨f,h0⟩,d]
  rfl
 rw[d,ew,ew]
def ajN(g:dW n np p)(a:L4 n np G L p){c:Int}(D:0<=c){u:aE}(x:oP {p with au:={p.au with ao:=cY p.au.ao c,aN:=p.au.aN.map (n8 c)}} c u):L4 n np G L u:=by
 obtain⟨b,w,fl,N,B,rfl,_,_,r,y,H,_⟩:=x.ex;have r:cP (cY p.ao c):=r;refine⟨a.gs,a.t0,λm F I=>?_,a.yp,a.off,λh j k=>⟨(a.jR h j k).1,(a.jR h j k).2.lks,(a.jR h j k).2.nn,(a.jR h j k).2.num⟩,a.abA,a.heard,a.hZ.renew a.gs g.hZ a.t0.1 (m':=cY p.ao c) g.gk y,λv=>?_⟩
 .have d:(p.au.aN.map (n8 c))[m]?=c5 F:=I;rw[ee] at d;cases l:p.au.aN[m]? with
  |none=>rw[l] at d;cases d
  |some f=>
   rw[l] at d;injection d with d
   subst d;obtain⟨t,z,C⟩:=a.now m f l;unfold n8
   by_cases e:f.akw=c
   .rw[if_pos e];exact⟨t,λq=>absurd q (show ¬(0:Int)<=-1 by decide),asx g rfl⟩
   .rw[if_neg e];refine⟨t,λq=>?_,C⟩
    show 0<=mQ (cY p.ao c) f.akw f.abG/\_+mQ (cY p.ao c) f.akw f.abG<=_
    rw[ara g.gq r e D];exact z q
 .have s:w.aA≠[]:=v;rcases H with⟨o,i⟩ |⟨o,i,A⟩
  .rw[i] at s;exact absurd o s
  .obtain⟨E,K,M,J⟩:=a.je o;exact⟨E,B,i,J.renew a.gs g.je a.t0.1 (by rw[i.pl];exact g.gk) A⟩
def gC.gh(c:dW n np p)(h:L4 n np G L p)(I:L<=1000)(H:fw p.au){J:aE}(F:gC p e J):∃Y,L4 n np Y (L+1) J:=by
 cases F with
 |wait _ _ h0 D=>
  by_cases V:e.A=0
  .rw[V,WV H];exact⟨G,L4.more (h.alter rfl rfl rfl rfl rfl rfl rfl)⟩
  .exact⟨_,(asG c h H (by omega) D).more⟩
 |walk d _ _ o B a _ W M=>exact⟨G,(alj c h o B.1 a W M).more⟩
 |look k rd ac r _ _ l=>exact arU c h I l
 |JE k rs rd r num F x b s _ _ u X j _ eZ O U _ _ B=>exact⟨G,(asF c h I u X j eZ O U B).more⟩
 |swap x b s d ab _ _ hi aa _ a Z Q N P y=>
  subst N;exact⟨G,(aqT c h hi aa a Z Q P y).more⟩
 |JD=>exact⟨G,L4.more (h.alter rfl rfl rfl rfl rfl rfl rfl)⟩
 |guard k _ j A C K _ _ u=>
  refine⟨G,L4.more ⟨h.gs,h.t0,λq d a=>?_,h.yp,h.off,h.jR,h.abA,h.heard,h.hZ,λw=>absurd (arz h K) w⟩⟩
  obtain⟨t,m,n3⟩:=h.now q d a;exact⟨t,m,ahz A j n3 (u d (fC a))⟩
 |shut k s _ j A _ C K _ _ u y=>
  rw[c.iz,c.gk] at y;refine⟨G,L4.more ⟨h.gs,h.t0,λq d a=>?_,h.yp,h.off,h.jR,h.abA,h.heard,h.hZ,λw=>⟨C,?_⟩⟩⟩
  .obtain⟨t,m,n3⟩:=h.now q d a;exact⟨t,m,ahz A j n3 (u d (fC a))⟩
  .obtain⟨E,D,R⟩:=h.hZ.shut h.gs c.hZ h.t0.1 c.gk y;exact⟨E,by show ki p.ao k.af E;rw[j];exact D,R⟩
 |xX=>exact⟨G,L4.more (h.alter rfl rfl rfl rfl rfl rfl rfl)⟩
 |xZ _ _ _ o _ l=>exact⟨G,(ajN c h o l).more⟩
 |xY _ _ _ _ _ _ _ o _ l=>exact⟨G,(ajN c h o l).more⟩
 |JF k st _ j A C T _=>
  refine⟨G,L4.more ⟨h.gs,h.t0,λq d a=>?_,h.yp,h.off,h.jR,h.abA,h.heard,h.hZ,λw=>absurd rfl w⟩⟩
  obtain⟨t,m,n3⟩:=h.now q d a;exact⟨t,m,λi z _ S=>T z (fC S)⟩
def oA.gh(k:dW n np p)(h:L4 n np G p.bB.length p){d:aE}{c:Int}(o:oA p e d c):∃a,L4 n np a d.bB.length d:=by
 cases o with
 |no=>exact⟨G,h⟩
 |bad al nm _ _ _ _ _ _=>
  refine⟨G,?_⟩
  show L4 n np G (p.bB++[_]).length _
  rw[ev];exact L4.more (h.alter rfl rfl rfl rfl rfl rfl rfl)
 |zI q nm l _ s j=>
  obtain⟨a,m⟩:=l.gh k h (by omega) j;refine⟨a,?_⟩
  show L4 n np a (p.bB++[_]).length _
  rw[ev];exact m.alter rfl rfl rfl rfl rfl rfl rfl
def vD.gh{s:gM}(t:yJ s)(h:vD s p):∃G,L4 s.ai.length s.ao.ai.length G p.bB.length p:=by
 obtain⟨x,b,W,rfl,_,P,_⟩:=h.ex;obtain⟨wh,rfl,X,M⟩:=P.ex;have A:=t.tg;have Q:=t.pl;have E:∀k,k<s.ai.length->s.ai[k]?=c5 (s.ai.getD k 0)/\0<=s.ai.getD k 0/\s.ai.getD k 0<(s.ao.ai.length:Int):=λk l=>by
  have e:=c4 l;rw[pu e];exact⟨e,Q.2 _ (dv l)⟩
 refine⟨⟨λk=>⟨λ_=>s.ai.getD k 0,λ_=>0⟩,λc _=>if c∈s.aw then s.ai.getD (s.aw.idxOf c) 0 else -1,λ_ _=>⟨0,0,[]⟩,λ_=>0⟩,⟨λk l=>⟨by show(0:Int)<=SM;decide,λm h0 S=>⟨c7 _,h0⟩⟩,λk l m _ _=>(E k l).2⟩,⟨c7 _,by show(0:Int)<=_;decide⟩,λk F w=>?_,⟨A.1,A.2.nodup⟩,λc o m=>if_neg o,λk rd eZ=>⟨t.rd.2 rd (fC eZ),?_⟩,λk r a _ R h0=>?_,λr O=>(by cases O),⟨λF w U y=>?_,⟨⟨s.aw,wh⟩,by simp,rfl,λk U y=>?_⟩⟩,λN=>absurd rfl N⟩
 .have d:(s.ai.map λq=>bC.mk q (-1) 0)[k]?=c5 F:=w;rw[ee] at d;cases j:s.ai[k]? with
  |none=>rw[j] at d;cases d
  |some q=>
   rw[j] at d;injection d with d
   subst d;refine⟨by show s.ai.getD k 0=q;exact pu j,λB=>absurd B (show ¬(0:Int)<=-1 by decide),λi z hi _=>?_⟩
   have K:s.gZ[i]?=c5 (-1):=hi;have:=(t.br.2.mem (fC K)).1;omega
 .have C:s.aQ[k]?=c5 rd:=eZ;refine⟨⟨λi hi=>absurd hi (fe _),λi c hi=>absurd hi (fe _),λi hi=>absurd hi (fe _),λc i hi=>absurd hi (fe _)⟩,λi hi=>absurd hi (fe _),-1,-1,e6 s.ai.length 0,?_,?_,?_,.inl ⟨rfl,rfl,rfl⟩,λi c o=>⟨0,?_,c7 _,(t.rd.2 rd (fC eZ)).2.2.2.1.1,λB=>absurd B (fe _)⟩⟩
  .show(s.aQ.map λ_=>(-1:Int))[k]?=_;rw[ee,C];rfl
  .show(s.aQ.map λ_=>(-1:Int))[k]?=_;rw[ee,C];rfl
  .show(s.aQ.map λ_=>e6 s.ai.length (0:Int))[k]?=_;rw[ee,C];rfl
  .have:=c9 o;rw[List.getElem?_replicate,if_pos (by have:i<s.aw.length:=this;omega)]
 .have u:(s.aQ.map λ_=>(-1:Int))[k]?=c5 a:=R;rw[ee] at u;cases j:s.aQ[k]? with
  |none=>rw[j] at u;cases u
  |some q=>
   rw[j] at u;have H:c5 (-1:Int)=c5 a:=u;injection H with H
   omega
 .rw[dk] at w;subst w;obtain⟨i,hi,rfl⟩:=dd.1 y;have K:i<wh.length:=hi;obtain⟨D,J,_⟩:=M i _ _ (c4 hi) (E i (by omega)).1;exact⟨J,by rw[D];exact c7 _⟩
 .have l:k<wh.length:=c9 y;obtain⟨D,J,T⟩:=M k _ _ y (E k (by omega)).1;refine⟨⟨by omega,by rw[D];exact c7 _,λm S V=>.inl ⟨rfl,rfl⟩,λm _ _=>T⟩,λc o m _ _=>?_⟩
  show(if c∈s.aw then s.ai.getD (s.aw.idxOf c) 0 else -1)=s.ai.getD k 0
  have I:s.aw[k]?=c5 c:=o;rw[if_pos (fC I),agw A.2.nodup I]
end
noncomputable def stp(p:aE)(e:bH):aE×Int:=(w7 LC p e).getD (p,2)
noncomputable def abf(p:aE)(a:List bH):aE:=a.foldl (λp e=>(stp p e).1) p
structure Inv (n np:Nat) (rs:List aS) (p:aE):Prop where
 sh:dW n np p
 gh:∃G,L4 n np G p.bB.length p
 rd:p.au.aQ=rs
 kI:p.bR.dg=[]
def gC.agU{p c:aE}{e:bH}(h:gC p e c):c.bR=p.bR:=by
 cases h with
 |xZ _ _ _ _ _ a=>obtain⟨b,s,fl,sm,d,rfl,_⟩:=a.ex;rfl
 |xY _ _ _ _ _ _ _ _ _ a=>obtain⟨b,s,fl,sm,d,rfl,_⟩:=a.ex;rfl
 |_=>rfl
def oA.agU{p a:aE}{e:bH}{c:Int}(h:oA p e a c):a.bR=p.bR:=by
 cases h with
 |no c _=>rfl
 |bad al nm c _ _ _ _ _=>rfl
 |zI q nm d _ _ _=>exact d.agU
section
variable {n np:Nat}{rs:List aS}{p:aE}{e:bH}
def Inv.step(h:Inv n np rs p)(k:k9 rs.length e):w7 LC p e=c5 (stp p e)/\oA p e (stp p e).1 (stp p e).2/\Inv n np rs (stp p e).1:=by
 have j:J6 p e:=by unfold J6;rw[h.rd];exact k
 obtain⟨l,c,a⟩:=Wq h.sh j;have es:stp p e=l:=by unfold stp;rw[c];rfl
 obtain⟨m,d⟩:=h.gh;rw[es];exact⟨c,a,a.mD h.sh,a.gh h.sh d,a.Gm.trans h.rd,by rw[a.agU];exact h.kI⟩
def arJ(a:List bH):abf p (a++[e])=(stp (abf p a) e).1:=by
 unfold abf;rw[List.foldl_append]
 rfl
def Inv.run(h:Inv n np rs p):∀{a:List bH},(∀e,e∈a->k9 rs.length e)->Inv n np rs (abf p a):=λ{a} c=>by
 unfold abf
 induction a generalizing p with
 |nil=>exact h
 |cons e a k=>exact k (h.step (c e (List.mem_cons_self ..))).2.2 λj d=>c j (List.mem_cons_of_mem _ d)
def run_eq(c:Inv n np rs p){a:List bH}(b:∀e,e∈a->k9 rs.length e)(l:a.length<=1000000):Rs LC p a=c5 (abf p a):=by
 unfold Rs;have e:=nV (f:=λg=>WT LC a (sN g) (sE g)) a.length (λi=>u16 (abf p (a.take i)) (i:Int)) (lR (abf p a)) (λi d=>by
  have h:=c4 d;have j:Inv n np rs (abf p (a.take i)):=c.run λe k=>b e (List.mem_of_mem_take k)
  show WT LC a (abf p (a.take i)) (i:Int)=_
  unfold WT;rw[aC,bn,h,aa,(j.step (b _ (dv d))).1,aa,aJ,iE h,arJ]
  rfl) (by
  show WT LC a (abf p (a.take a.length)) (a.length:Int)=_
  unfold WT;rw[aG,List.take_length])
 refine(dL e).trans ?_
 show(wc LC (abf p a)).bind _=_
 rw[abi (c.run b).sh.lC]
 rfl
def vD.inv{s:gM}(a:yJ s)(h:vD s p):Inv s.ai.length s.ao.ai.length s.aQ p:=by
 refine⟨h.mD a,h.gh a,?_,?_⟩
 .obtain⟨x,b,c,rfl,_⟩:=h.ex;rfl
 .obtain⟨x,b,c,rfl,_⟩:=h.ex;exact a.es.2.1
def inA(p:aE)(a:List Int)(c:Nat):Bool:=match p.au.aN[c]? with |some b=>c3 (b.abG∈a) |none=>false
def Inv.tru(h:Inv n np rs p)(d:List Int):∃a,a∈p.bw.aA/\a.aH.length=n/\∀k,k<n->(jT a d p.au.aa0 k=true->inA p d k=true)/\(inA p d k=true->js a d p.au.aa0 k=true):=by
 obtain⟨u,j⟩:=h.gh;obtain⟨a,m,ht,t⟩:=j.hZ.now j.gs h.sh.hZ j.t0.1;have o:=(h.sh.hZ.mX a m).1.1;refine⟨a,m,o,λk s=>?_⟩
 have ex:=c4 (show k<a.aH.length by omega);have ep:=c4 (show k<p.au.aN.length by rw[h.sh.iz];exact s);have l:=t k _ ex;rw[(j.now k _ ep).1] at l;unfold jT js inA;rw[ex,ep];dsimp only
 constructor
 .intro c;rw[Bool.and_eq_true,Bool.not_eq_true',hq] at c;have:=c.2 _ l;rw[Bool.not_eq_true,Bool.not_eq_false',decide_eq_true_iff] at this;exact decide_eq_true this
 .intro c;exact h7.2 ⟨_,l,c⟩
def auO(d:Inv n np rs p){area:List Int}(I:area.length<=1000)(k:List (List Int)){i:Nat}(h:k[i]?=c5 area)(N:k.length<=1000000):arf LC k p (i:Int)=c5 (.inl ((i:Int)+1)):=by
 obtain⟨c,j,z,m⟩:=d.tru area;have L:=c9 h;have G:=d.sh.n3;have E:=d.sh.iz;have l:Fit area:=by show area.length<=_;omega
 unfold arf;rw[aC,bn,h,e5,h];simp only[aa];obtain⟨sure,y,K,B⟩:=atu (b:=p.bw) (area:=area) (t:=p.au.aa0) (n:=n) d.sh.lC.be l λc j=>(d.sh.hZ.mX c j).1.1
 obtain⟨M,s,x⟩:=aqJ (b:=p.bw) (area:=area) (t:=p.au.aa0) d.sh.lC.be l;have C:Fit sure:=by show sure.length<=_;omega
 rw[y,aa,s];have e:=nV (f:=λr:Int×Int=>ar5 LC p k (i:Int) sure r.1 r.2) n (λa=>(fH (inA p area) a,(a:Int))) (.inr (fH (inA p area) n)) (λa g=>by
  have ep:=c4 (show a<p.au.aN.length by omega);have v:inA p area a=c3 ((p.au.aN[a]'(by omega)).abG∈area):=by unfold inA;rw[ep]
  have F:=Iu (inA p area) a;dsimp only;unfold ar5;rw[aC,bn,h,e5,h,bn,ep];simp only[aa];rw[has_eq l,aa,has_eq C,aa,aJ (n:=fH (inA p area) a+1),aJ (n:=(a:Int)+1), <-v];have D:(bif inA p area a then c5 (fH (inA p area) a+1) else c5 (fH (inA p area) a))=c5 (fH (inA p area) (a+1)):=by
   rw[fH];cases inA p area a
   .simp
   .simp
  rw[D,aa];have u:(bif c3 ((a:Int)∈sure) then c5 (!inA p area a) else c5 false)=c5 false:=by
   by_cases o:(a:Int)∈sure
   .obtain⟨q,O,A⟩:=B _ o;have:q=a:=by omega
    subst this;rw[(m q g).1 (A c j),aC o]
    rfl
   .rw[aG o]
  rw[u,aa,cond_false]
  rfl) (by
  dsimp only;unfold ar5;rw[aG])
 refine(dL e).trans ?_
 simp only[Sum.elim_inr,aa];have w:=x c j;rw[z] at w;have J:fH (jT c area p.au.aa0) n<=fH (inA p area) n:=ase n λa g=>(m a g).1
 have H:fH (inA p area) n<=fH (js c area p.au.aa0) n:=ase n λa g=>(m a g).2
 rw[aG,decide_eq_false (by omega),aa,cond_false,aJ]
def atA(j:List Int):asg LC j=c5 true:=by
 unfold asg;rw[ajy,aa,WQ]
 by_cases x:(j.length:Int)<=400
 rotate_left
 .rw[decide_eq_false x];rfl
 rw[decide_eq_true x,eo,cond_false];have t:j.length<=400:=by omega
 refine Ok.val ?_
 refine c8 (a:=j) rfl ?_
 refine aD (alo t) λu o=>?_
 refine aD (Vr o.2) λG E=>?_
 obtain⟨p,ok⟩:=G;obtain⟨A,y⟩:=E;dsimp only at A y⊢;rw[A,eo,cond_false];have g:=y.inv o.2;refine aD (aqk t (d:=⟨u.1,u.2.1⟩) o.1 g.sh 30 (by decide) (by decide)) λm s=>?_
 have z:∀e,e∈m.2.2->k9 u.2.2.aQ.length e:=by rw[<-g.rd];exact s.2.2
 rw[run_eq g z (by have:=s.2.1;omega),aa];have l:=g.run z;generalize abf p m.2.2=q at l;have I:=l.sh.mq;have H:=l.sh.gk;refine aD (apv t q.ao.ai.length (by omega) (d:=⟨m.1,m.2.1⟩) s.1) λr C=>?_
 refine aD (Q:=λB=>B.length<=65/\∀a,a∈B->a.length<=100) ?_ λw b=>?_
 .refine di q.ao.ai.length (λi c=>c.2=(i:Int)/\c.1.length=i+1/\∀a,a∈c.1->a.length<=100) _ (λi c v g=>?_) (λc g=>?_) _ ⟨rfl,rfl,λa b=>?_⟩
  .obtain⟨D,F⟩:=c;obtain⟨rfl,k,h⟩:=g;dsimp only at k h⊢;unfold ar9;rw[aC,pN (by simp;omega),aa,aJ];refine ae ⟨by dsimp only;omega,by simp[k],λa b=>?_⟩
   rcases e4.1 b with b |b
   .exact h a b
   .rw[dk] at b;rw[b];simp
  .obtain⟨D,F⟩:=c;obtain⟨rfl,k,h⟩:=g;dsimp only at k h⊢;unfold ar9;rw[aG];exact ae ⟨by omega,h⟩
  .rw[dk] at b;rw[b];have:=C.2.len (by omega);omega
 have e:=nV (f:=λc=>arf LC w q c) w.length (λi=>(i:Int)) (.inr ()) (λi v=>auO l (by have:=b.2 _ (dv v);omega) w (c4 v) (by omega)) (by
  unfold arf;rw[aG])
 refine c8 e ?_
 exact ae rfl
end
end Go.X.T
namespace Go.X.T
open Go Go.Aml Go.Bml Go.X Go.Proofs Go.ChangeShapes Go.WideShapes Go.RowKit Go.ChangeAt
def asD:G8 hI (asf LC) [22]:=λl h0=>by
 obtain⟨i,g,f,rfl,c⟩:=ajJ h0;obtain rfl:=adH c;obtain⟨b,rfl,j,h⟩:=aeB (e:=3) (k:=.i64) (by kernel_rfl) (by kernel_rfl) (by kernel_rfl) (by kernel_rfl) f;refine⟨b,true,atA b,rfl,λa=>?_,rfl⟩
 have d:dP hI 22=c5 false:=by kernel_rfl
 rw[d]
 match a with
 |0=>rfl
 |a+1=>rfl
end Go.X.T
namespace Go.Proofs.YtfljhldgncdifaaGreat
open Go Go.Aml Go.Bml Go.X Go.X.T Go.ChangeShapes Go.WideShapes Go.ChangeAt Go.RowKit
def Wd:joinedFacts Tryz.pinned.checked.prog 5 Tryz.f5 Rows.topCountedSpec Rows.topCountedRow=true:=by
 unfold joinedFacts;rw[ja,jb,jc,jd]
 kernel_rfl
def lifted(os:Os)(started:os.Started)(H:Type)(enc:TypeId×Value->H):
 ReturnsInHanded {} hB os 5 .any (Rows.topCountedSpec.pre6 enc hI Tryz.f5 Rows.topCountedRow.domain false) (Rows.topCountedSpec.post enc hI Tryz.f5 false true false false):=
 ahF (C:=hB) (c:=asf LC) (tb:=4) (by kernel_rfl) started (by kernel_rfl) Tryz.func5
  (ChangeSpec.witness6 (enc:=enc) (C:=hB) false ⟨#[],#[.slice hK 0 0],[]⟩ 8 (by kernel_rfl) (by kernel_rfl) (by kernel_rfl) (by kernel_rfl))
  (by kernel_rfl) (by kernel_rfl) (by kernel_rfl) rfl rfl Tryz.underlying4 (λds hl=>by
   match ds,hl with
   |[_],_=>rfl) rfl (aum LC) asD
theorem topCounted_holds:Rows.TopCountedSaid:=
 OpenClaim.holds_of_wide 5 Tryz.f5 rfl rfl rfl rfl rfl rfl rfl ⟨rfl,rfl,rfl,rfl,rfl⟩ rfl rfl rfl rfl rfl (by kernel_rfl) Tryz.func5 Wd
  (of_decide_eq_true (by kernel_rfl)) (by unfold Func.isWrapper;first |(rw[if_pos (by decide+kernel)];kernel_rfl) |(rw[if_neg (by decide+kernel)];exact⟨rfl,rfl⟩))
  (λos started H enc _=>lifted os started H enc)
#print axioms topCounted_holds
end Go.Proofs.YtfljhldgncdifaaGreat
