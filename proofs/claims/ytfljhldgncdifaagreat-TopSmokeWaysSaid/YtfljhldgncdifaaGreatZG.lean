/- TopSmokeWays: for every input the law returns true, and each argument reads as it did. Without conditions. -/
import Derived.Test.YtfljhldgncdifaaGreatZF
import Derived.Test.YtfljhldgncdifaaGreatZJ3a
import Derived.Test.YtfljhldgncdifaaGreatZJ3b
import Derived.Test.YtfljhldgncdifaaGreatZJ3c
import Derived.Test.YtfljhldgncdifaaGreatZJ3d
import Derived.Test.YtfljhldgncdifaaGreatZA
import Derived.Test.YtfljhldgncdifaaGreatZB
import Derived.Test.YtfljhldgncdifaaGreatZC
import Derived.Test.YtfljhldgncdifaaGreatZD
import Derived.Test.YtfljhldgncdifaaGreatZE
import Derived.Test.YtfljhldgncdifaaGreatRows
import Derived.WalkKit
import Derived.ProofKit
import Derived.OpenShut
import Derived.Below
import Derived.JoinedOf
set_option linter.unusedSimpArgs false
set_option maxRecDepth 100000
set_option linter.unusedVariables false
open Go.IntKind renaming wrap → c3, i64 → c4
open Decidable renaming decide → c5, not_not → ei
open List renaming getElem?_eq_getElem → c6, getD_eq_getElem?_getD → d0, mem_singleton → d1, length_set → d2, length_map → d3, getElem_mem → d4, getElem?_append_left → d5, mem_append → d8, replicate → dd, length_eq_zero_iff → dk, length_pos_iff → dt, length_replicate → dv, mem_iff_getElem → e4, getElem?_append_right → e5, getElem?_eq_some_iff → ea, mem_or_eq_of_mem_set → ec, length_append → ee
open Option renaming some → c7
open Int renaming toNat_natCast → d6, le_refl → e0
open Sum renaming inl → d7, inr → dT
open Bool renaming not_true → d9
open Nat renaming le_trans → e6, le_refl → ef
namespace Go.X.T
open Go Go.Aml Go.Top
def dR(p:aE)(b a:aL):aE:={p with bw:=b,bq:=a}
def DS(r:aT)(b:aS)(a:dS):Prop:=a.Tag∈r.aw/\a.an=max 0 (r.Time -b.cR)/\a.To=r.Time+b.cR
inductive fv (m:ak) (kr:List Int) (clock:Int) (rs rd:aS) (r:aT) (hd:List aT) (k:Int) (b0 s0:aL):aL->aL->Prop
 |nil:fv m kr clock rs rd r hd k b0 s0 b0 s0
 |Ls {b s b'} (sg:dS):fv m kr clock rs rd r hd k b0 s0 b s->DS r rs sg->oG (λx x'=>x'=x\/lG m x rd.ai sg.an (min sg.To clock) x') (λx=>x.Time<=sg.an/\∀p,p∈rd.ai->min sg.To clock<fn x.an p) m sg.Tag b b'->fv m kr clock rs rd r hd k b0 s0 b' s
 |Lt {b s s'} (sg:dS) (bm:ak):fv m kr clock rs rd r hd k b0 s0 b s->DS r rs sg->s.aA≠[]->ki m kr bm->oG (λx x'=>x'=x\/lG bm x rd.ai sg.an (min sg.To clock) x') (λx=>x.Time<=sg.an/\∀p,p∈rd.ai->min sg.To clock<fn x.an p) bm sg.Tag s s'->fv m kr clock rs rd r hd k b0 s0 b s'
 |abs {b s b'} (tag:Int) (a:dC):fv m kr clock rs rd r hd k b0 s0 b s->tag∉r.aw->nc hd k tag rd a->oG (λx x'=>x'=x\/∃g1,og m x rd.ai a.an (min a.To clock) ((rd.dY+1)*rd.dX) x' g1) (λ_=>False) m tag b b'->fv m kr clock rs rd r hd k b0 s0 b' s
 |Lu {b s s'} (tag:Int) (a:dC) (bm:ak):fv m kr clock rs rd r hd k b0 s0 b s->tag∉r.aw->nc hd k tag rd a->s.aA≠[]->ki m kr bm->oG (λx x'=>x'=x\/∃g1,og bm x rd.ai a.an (min a.To clock) ((rd.dY+1)*rd.dX) x' g1) (λ_=>False) bm tag s s'->fv m kr clock rs rd r hd k b0 s0 b s'
theorem fv.shape{m:ak}{kr:List Int}{clock:Int}{rs rd:aS}{r:aT}{w:List aT}{k:Int}{l o b s:aL}{n np:Nat}(h:fv m kr clock rs rd r w k l o b s)(j:m.ai.length=np)(C:fM n np l)(y:l.aA≠[])(A:fM n np o):(fM n np b/\b.aA≠[])/\fM n np s/\(s.aA=[]↔o.aA=[]):=by
 induction h with
 |nil=>exact⟨⟨C,y⟩,A,Iff.rfl⟩
 |Ls x _ _ d c=>exact⟨⟨c.1.1.aX (Ro j) d,d.ne⟩,c.2⟩
 |Lt x B _ _ u t d c=>exact⟨c.1,c.2.1.aX (Ro (by rw[t.pl];exact j)) d,⟨λh=>absurd h d.ne,λh=>absurd (c.2.2.2 h) u⟩⟩
 |abs tag a _ _ _ d c=>exact⟨⟨c.1.1.aX (T3 j) d,d.ne⟩,c.2⟩
 |Lu tag a B _ _ _ u t d c=>exact⟨c.1,c.2.1.aX (T3 (by rw[t.pl];exact j)) d,⟨λh=>absurd h d.ne,λh=>absurd (c.2.2.2 h) u⟩⟩
def gj(d a:List cy):Prop:=VA a/\∀b,b∈d->∃c,c∈a/\fX c b.Kind b.eB
theorem gj.refl{a:List cy}(h:VA a):gj a a:=⟨h,λb c=>⟨b,c,rfl,rfl⟩⟩
theorem gj.trans{j l d:List cy}(h:gj j l)(k:gj l d):gj j d:=⟨k.1,λb t=>by
 obtain⟨a,s,u,m⟩:=h.2 b t;obtain⟨c,w,x,o⟩:=k.2 a s;exact⟨c,w,x.trans u,o.trans m⟩⟩
theorem QP{b:List cy}(a:VA b)(g d p i:Int):Ok (rk LC b g d p i) λq=>gj b q.1/\(q.2=0->∃h,h∈q.1/\fX h g d)/\(q.2≠0->q.1=b):=gh (apS b g d p i) λq j=>by
 rcases j with⟨f,c⟩ |⟨f,c,k,l⟩
 ·exact⟨by rw[c];exact gj.refl a,λa=>absurd a f,λ_=>c⟩
 ·exact⟨⟨c,l⟩,λ_=>k,λa=>absurd f a⟩
def aas(a:bA)(r:Int):Prop:=∀(i:Nat) (n:Int),a.af[i]? =c7 r->a.Keys[i]? =c7 n->n=0
structure oP (p:aE) (a:Int) (p':aE):Prop where
 ex:∃b s fl sm bm,p'={p with ao:=cY p.ao a,cI:=fl,bw:=b,bq:=s,bz:=sm}/\fl.length=p.cI.length/\
  kW LC (cY p.ao a) p.bw p.au.Time=c7 (b,0)/\cP (cY p.ao a)/\gG (λx x'=>mP (cY p.ao a) x p.au.Time x') p.bw.aA b.aA/\
  ((p.bq.aA=[]/\s=p.bq)\/(p.bq.aA≠[]/\ki (cY p.ao a) p.Keys.af bm/\gG (λx x'=>mP bm x p.au.Time x') p.bq.aA s.aA))/\
  ((p.bz.an=[]/\sm=p.bz)\/(p.bz.an≠[]/\sm.an.length=p.ao.ai.length))
inductive gC (p:aE) (e:bH):aE->Prop
 |wait:e.Kind=1->fw p.au->0<=e.A->p.au.Time+e.A<=2147483648->gC p e {p with au:=x7 p.au e.A}
 |walk (w:bC):e.Kind=2->fw p.au->0<=e.A->(0<=e.C/\e.C<=3600)->p.au.aN[e.A.toNat]? =c7 w->w.Road<0->0<=mQ p.au.ao e.B w.Place->aas p.Keys e.B->gC p e {p with au:={p.au with aN:=p.au.aN.set e.A.toNat ⟨w.Place,e.B,mQ p.au.ao e.B w.Place+e.C⟩}}
 |look (k:Nat) (rd:aS) (x':aB) (r:aT):e.Kind=3->e.A=(k:Int)->cf p.au k e.C rd x' r->gC p e {p with au:=x',cq:=p.cq.set k r}
 |JE (k:Nat) (rs rd:aS) (r:aT) (num:Int) (hd:List aT) (x:cZ) (b s:aL):e.Kind=4->e.A=(k:Int)->p.au.cn[k]? =c7 num->0<=num->p.cq[k]? =c7 r->kb r->p.au.aQ[k]? =c7 rd->p.au.aQ[r.Reader.toNat]? =c7 rs->(∃d,hd=(p.bZ++[r]).drop d)->hd.length<=60->(Sm x.dl/\Sm x.dr)->fv p.ao p.Keys.af p.au.Time rs rd r hd (k:Int) p.bw p.bq b s->gC p e {p with bZ:=hd,cW:=x,bw:=b,bq:=s}
 |swap (x:aB) (b s:aL) (w w':bC):e.Kind=5->fw p.au->(0<=e.A/\e.A<(p.au.aN.length:Int))->(0<=e.B/\e.B<(p.au.aN.length:Int))->e.A≠e.B->p.au.aN[e.A.toNat]? =c7 w->p.au.aN[e.B.toNat]? =c7 w'->w.Place=w'.Place->x={p.au with aw:=gL e.A e.B p.au.aw,bp:=p.au.bp.map (gL e.A e.B)}->AY p.ao e.A e.B p.au.Time p.au.aN.length p.ao.ai.length p.bw b->((p.bq.aA=[]/\s=p.bq)\/∃bm,p.bq.aA≠[]/\ki p.ao p.Keys.af bm/\AY bm e.A e.B p.au.Time p.au.aN.length p.ao.ai.length p.bq s)->gC p e {p with au:=x,bw:=b,bq:=s}
 |JD (sm:bQ) (al:List cy):e.Kind=6->sm.an.length=p.ao.ai.length->gj p.bS al->(∃a,a∈al/\fX a 1 e.A)->gC p e {p with bz:=sm,bS:=al}
 |guard (k:bA):e.Kind=7->k.af=p.Keys.af->k.Keys=p.Keys.Keys.set e.A.toNat 2->k.Out=false->p.Keys.Out=false->ff k->0<=e.A->(∀w,w∈p.au.aN->∀r,p.Keys.af[e.A.toNat]? =c7 r->w.Road≠r)->gC p e {p with Keys:=k}
 |shut (k:bA) (s:aL):e.Kind=7->k.af=p.Keys.af->k.Keys=p.Keys.Keys.set e.A.toNat 2->(∀n,n∈k.Keys->n=2)->k.Out=true->p.Keys.Out=false->ff k->0<=e.A->(∀w,w∈p.au.aN->∀r,p.Keys.af[e.A.toNat]? =c7 r->w.Road≠r)->Ff p.ao p.bw p.Keys.af p.au.Time p.au.aN.length p.ao.ai.length s->gC p e {p with Keys:=k,bq:=s}
 |xX (st:b7):(e.Kind=8\/e.Kind=9\/e.Kind=10)->mW st->rz p.bM p.Keys p.bq->gC p e {p with cL:=st}
 |xZ (p':aE):e.Kind=11->fw p.au->0<=e.A->(∃r,p.au.ao.af[e.A.toNat]? =c7 r/\r.eN=false)->oP {p with au:={p.au with ao:=cY p.au.ao e.A,aN:=p.au.aN.map (n8 e.A)}} e.A p'->gC p e p'
 |xY (p':aE) (al:List Int) (q:ak×List Int×Int):e.Kind=12->(∀x,x∈al->∃a,a∈p.bS/\fX a 2 x)->Pp p.ao {p.bR with dg:=filled p.bz (p.au.Time+600)} p.bw e.A al p.au.Time 600 q->fw p.au->0<=e.A->(∃r,p.au.ao.af[e.A.toNat]? =c7 r/\r.eN=false)->oP {p with au:={p.au with ao:=cY p.au.ao e.A,aN:=p.au.aN.map (n8 e.A)}} e.A p'->gC p e p'
 |JF (k:bA) (st:b7):e.Kind=13->k.af=p.Keys.af->ff k->k.Out=false->(∀n,n∈k.Keys->n=0)->(st=p.cL/\p.cL.State=0\/st=⟨0,0,0,0⟩)->gC p e {p with Keys:=k,cL:=st,bq:=⟨[]⟩}
structure gi (p:aE) (e:bH) (g:aR) (c:Int):Prop where
 ok:c=0->gC p e g.aI
 iI:c≠0->gj p.bS g.aI.bS
 nm:g.named.length<=768
theorem gi.same{p:aE}{e:bH}{c:Int}{n np:Nat}(h:dW n np p)(a:c≠0):gi p e ⟨p,[]⟩ c:=⟨λh=>absurd h a,λ_=>gj.refl h.iI,by simp⟩
theorem gi.bad{p a:aE}{e:bH}{c:Int}{n np:Nat}(h:dW n np p)(d:c≠0)(j:a.bS=p.bS):gi p e ⟨a,[]⟩ c:=⟨λh=>absurd h d,λ_=>by show gj p.bS a.bS;rw[j];exact gj.refl h.iI,by simp⟩
theorem gi.lP{p a:aE}{e:bH}{c:Int}(d:c=0)(j:gC p e a):gi p e ⟨a,[]⟩ c:=⟨λ_=>j,λh=>absurd d h,by simp⟩
section
variable {n np : Nat} {p : aE} {e : bH}
theorem Wo(b:dW n np p)(j:e.Kind=1):Ok (xR LC ⟨p,[]⟩ e) λh=>∃g c,h=cT g c/\gi p e g c:=by
 unfold xR;refine aD (RE e.A b.kN.fit) λq d=>ae ⟨_,_,rfl,?_⟩
 rcases d with⟨a,_⟩ |⟨a,i,k,f,l⟩
 ·exact .bad b a rfl
 ·rw[l];exact .lP a (.wait j i k f)
theorem aku(a:dW n np p)(w:e.Kind=2):Ok (yV LC ⟨p,[]⟩ e) λv=>∃g f,v=cT g f/\gi p e g f:=by
 unfold yV;have B:=a.key.1.1;have b:=a.key.2.1;refine aD (O5 (k:=p.Keys) (by omega) (by omega)) λl b=>?_
 rw[contains_eq (by show l.length<=_;have:=b.1;omega),aa];refine aV (λ_=>ae ⟨_,_,rfl,.same a (by decide)⟩) (λz=>?_)
 refine aD (ahi e.A e.B e.C a.kN.fit) λq h=>ae ⟨_,_,rfl,?_⟩
 rcases h with⟨c,_⟩ |⟨c,A,m,s,y,x,j,o,r⟩
 ·exact .bad a c rfl
 ·rw[r];refine .lP c (.walk y w A m s x j o λi n t u=>?_)
  by_cases d:n=0
  ·exact d
  ·exact absurd ((b.2 e.B).2 ⟨i,n,t,u,d⟩) z
theorem anv(a:dW n np p)(l:e.Kind=3)(h0:0<=e.A)(m:e.A<max 1 (p.au.aQ.length:Int)):Ok (yT LC ⟨p,[]⟩ e) λk=>∃g f,k=cT g f/\gi p e g f:=by
 unfold yT;refine aD (look_ok (x:=p.au) e.A e.B e.C a.kN.fit (by have:=a.kj;have:=a.jR;omega) h0 m a.kj) λq j=>?_
 rcases j with⟨b,d⟩ |⟨b,c,i,d,h⟩
 ·rw[aG b];exact ae ⟨_,_,rfl,.same a b⟩
 ·rw[aC b];have o:=(ea.1 h.eZ).1;have r:=a.kn;rw[d,bn];show Ok ((p.cq[c]?).bind λ_=>(p.cq[((c:Nat):Int).toNat]?).bind _) _
  rw[d6,c6 (show c<p.cq.length by omega),aa,aa];exact ae ⟨_,_,rfl,.lP b (.look c i q.1 q.2.1 l d h)⟩
theorem Zi(c:dW n np p)(m:e.Kind=8):Ok (vm LC ⟨p,[]⟩ e) λj=>∃g f,j=cT g f/\gi p e g f:=by
 unfold vm;refine c8 (a:=p.au.Time) rfl ?_
 refine aD (ao0 (x:=p.bM) (s:=p.cL) (k:=p.Keys) (b:=p.bq) e.A p.au.Time (e6 c.qx (by decide)) (e6 c.key.sm.1 (by decide)) c.lC.se) λq h=>ae ⟨_,_,rfl,?_⟩
 rcases h with⟨d,_⟩ |⟨d,l,o,i⟩
 ·exact .bad c d rfl
 ·exact .lP d (.xX q.1 (.inl m) l i)
theorem amE(c:dW n np p)(m:e.Kind=9):Ok (wR LC ⟨p,[]⟩ e) λj=>∃g f,j=cT g f/\gi p e g f:=by
 unfold wR;refine c8 (a:=p.au.Time) rfl ?_
 refine aD (ajE (x:=p.bM) (s:=p.cL) (k:=p.Keys) (b:=p.bq) e.A p.au.Time (e6 c.qx (by decide)) (e6 c.key.sm.1 (by decide)) c.lC.se) λq h=>ae ⟨_,_,rfl,?_⟩
 rcases h with⟨d,_⟩ |⟨d,l,o,i⟩
 ·exact .bad c d rfl
 ·exact .lP d (.xX q.1 (.inr (.inl m)) l i)
theorem aeC(c:dW n np p)(m:e.Kind=10):Ok (yu LC ⟨p,[]⟩ e) λj=>∃g f,j=cT g f/\gi p e g f:=by
 unfold yu;refine c8 (a:=p.au.Time) rfl ?_
 refine aD (X1 (x:=p.bM) (s:=p.cL) (k:=p.Keys) (b:=p.bq) p.au.Time (c5 (e.B≠0)) (e6 c.qx (by decide)) (e6 c.key.sm.1 (by decide)) c.lC.se) λq h=>ae ⟨_,_,rfl,?_⟩
 rcases h with⟨d,_⟩ |⟨d,l,o,i⟩
 ·exact .bad c d rfl
 ·exact .lP d (.xX q.1 (.inr (.inr m)) l i)
end
section
variable {n np : Nat} {p : aE} {e : bH}
theorem CF{g:aR}(b:cP g.aI.ao)(d:cj 0 ((g.aI.ao.af.length:Int) -1) g.aI.Keys.af)(f:g.aI.Keys.af.length<=1000):Ok (mT LC g) λq=>ki g.aI.ao g.aI.Keys.af ⟨q.1,q.2⟩:=by
 unfold mT;refine aD (acx g.aI.ao g.aI.Keys.af (by show _<=4611686018427387904;omega) (by have:=b.2.1;show _<=4611686018427387904;omega)) λq c=>ae ?_
 rcases c with⟨_,a⟩ |⟨_,a,_⟩
 ·exact a
 ·exact absurd d (a b)
theorem apk{a b:List Int}(o:a.length=b.length)(q:b.length<=1000000)(j:bQ×Int)(g:j.1.an=b):Ok (bO (λc:List Int×Int=>uq LC j c.1 c.2) (a,0)) λl=>l.length=a.length:=by
 refine di b.length (λi c=>c.2=(i:Int)/\c.1.length=a.length) _ (λi c k f=>?_) (λc f=>?_) _ ⟨rfl,rfl⟩
 ·obtain⟨h,m⟩:=c;obtain⟨rfl,d⟩:=f;dsimp only at d⊢;unfold uq;rw[g,aC,bn,c6 k,aa,bn,d6,c6 (show i<h.length by omega)];simp only[aa];rw[aJ];exact ae ⟨rfl,by rw[d2];exact d⟩
 ·obtain⟨h,m⟩:=c;obtain⟨rfl,d⟩:=f;dsimp only at d⊢;unfold uq;rw[g,aG];exact ae d
theorem aiX(f:dW n np p)(E:e.Kind=6):Ok (xy LC ⟨p,[]⟩ e) λi=>∃g l,i=cT g l/\gi p e g l:=by
 have D:=f.gq;have H:=D.1;unfold xy;dsimp only;rw[aJ,cF,aa,de];refine aV (λ_=>?_) (λ_=>ae ⟨_,_,rfl,.same f (by decide)⟩)
 refine c8 (a:=p.au.Time) rfl ?_
 refine aD (amZ p.ao p.cI [e.A] p.au.Time (by show(1:Nat)<=_;decide) (by show _<=4611686018427387904;omega)) λq j=>?_
 by_cases r:q.2.2=0
 rotate_left
 ·rw[aC r];exact ae ⟨_,_,rfl,.same f r⟩
 rw[aG (by rw[r];simp)];have w:q.1.length=p.ao.ai.length:=by
  rcases j with j |j
  ·exact j.2.1.1
  ·exact absurd r j.1
 have y:∀s:List Int,s.length=p.ao.ai.length->Ok ((fP LC (aR.mk ({p with bz:=(bQ.mk q.2.1 s)}:aE) [])).bind λF=>(rk LC p.bS 1 e.A 1 F).bind λz=>c7 (cT (aR.mk ({p with bz:=(bQ.mk q.2.1 s),bS:=z.1}:aE) []) z.2)) λi=>∃g l,i=cT g l/\gi p e g l:=λs C=>by
  refine c8 (a:=p.au.Time) rfl ?_
  refine aD (QP f.iI 1 e.A 1 p.au.Time) λh c=>ae ⟨_,_,rfl,⟨λh0=>.JD _ _ E C c.1 (c.2.1 h0),λ_=>c.1,by simp⟩⟩
 by_cases o:0<(p.bz.an.length:Int)
 ·rw[aC o];have G:p.bz.an.length=p.ao.ai.length:=by
   rcases f.pq with e |e
   ·rw[e] at o;simp at o
   ·rw[e,f.gk]
  obtain⟨h,x,c⟩:=ajz p.ao p.cI p.ao p.cI p.bz p.au.Time
  by_cases m:h.2=0
  ·have I:h.1.an.length=p.ao.ai.length:=by
    rcases c with c |c
    ·exact c.2.1.1
    ·exact absurd m c.1
   obtain⟨i,B,A⟩:=apk (a:=q.1) (b:=h.1.an) (by omega) (by omega) h rfl;have u:((fP LC (⟨p,[]⟩:aR)).bind λv=>(uk LC p.ao p.cI p.ao p.cI p.bz v).bind λd=>bif c5 (d.2≠0) then c7 (dT d.2:(List Int)⊕Int) else(bO (λk:List Int×Int=>uq LC d k.1 k.2) (q.1,0)).bind λt=>c7 (d7 t))=c7 (d7 i):=by
    refine(dL (a:=p.au.Time) rfl).trans ?_
    rw[x,aa,aG (by rw[m];simp),B,aa]
   refine c8 u ?_
   exact y i (by rw[A,w])
  ·have u:((fP LC (⟨p,[]⟩:aR)).bind λv=>(uk LC p.ao p.cI p.ao p.cI p.bz v).bind λd=>bif c5 (d.2≠0) then c7 (dT d.2:(List Int)⊕Int) else(bO (λk:List Int×Int=>uq LC d k.1 k.2) (q.1,0)).bind λt=>c7 (d7 t))=c7 (dT h.2):=by
    refine(dL (a:=p.au.Time) rfl).trans ?_
    rw[x,aa,aC m]
   refine c8 u ?_
   exact ae ⟨_,_,rfl,.same f m⟩
 ·rw[aG o,aa];exact y q.1 w
theorem aiy{a:List bC}(f:Fit a){g:aR}{e:bH}{r:Int}(d:aj g.aI.Keys.af e.A=c7 r):Dv LC a g e=c7 (a.any λb=>c5 (b.Road=r)):=by
 unfold Dv;have h:Er LC a g e=c7 (gg (λb=>c5 (b.Road=r)) a):=by
  unfold Er;refine fF (P:=λc=>B0 LC c g e) f (λc _=>?_) λi=>rfl
  unfold B0;rw[d,aa]
 rw[h,aa,gm]
theorem afn{b:List Int}(c:Fit b):zA LC b=c7 (b.any λa=>c5 (a≠2)):=by
 unfold zA;have d:CC LC b=c7 (gg (λa=>c5 (a≠2)) b):=by
  unfold CC;exact fF (P:=λa=>KV LC a) c (λa _=>rfl) λf=>rfl
 rw[d,aa,gm]
theorem anG(b:dW n np p)(G:e.Kind=7):Ok (vA LC ⟨p,[]⟩ e) λT=>∃g I,T=cT g I/\gi p e g I:=by
 have ak:=b.key.1.1;have af:=b.key.2.1;have R:p.au.aN.length=n:=b.iz;have ac:=b.n3;have l:Fit p.Keys.af:=by show _<=4611686018427387904;omega
 unfold vA;dsimp only;rw[aJ,cF,aa,de];refine aV (λy=>?_) (λ_=>ae ⟨_,_,rfl,.same b (by decide)⟩)
 have A:p.Keys.af[e.A.toNat]? =c7 (p.Keys.af[e.A.toNat]'(by omega)):=c6 _;generalize p.Keys.af[e.A.toNat]'(by omega)=r at A;have U:aj p.Keys.af e.A=c7 r:=by unfold aj;rw[if_pos y.1];exact A
 refine c8 (aiy (by show _<=4611686018427387904;omega) U) ?_
 refine dy (λ_=>ae ⟨_,_,rfl,.same b (by decide)⟩) (λL=>?_)
 have H:∀f,f∈p.au.aN->∀r,p.Keys.af[e.A.toNat]? =c7 r->f.Road≠r:=λf N ad j=>by
  rw[A] at j;injection j with j
  subst j;intro c;have:(p.au.aN.any λf=>c5 (f.Road=r))=true:=List.any_eq_true.2 ⟨f,N,decide_eq_true c⟩;rw[L] at this;cases this
 obtain⟨o,ab,u⟩:=Dx (k:=p.Keys) e.A 0 1 l;refine c8 (a:=(o.1,o.2)) (by unfold GQ;rw[ab,aa]) ?_
 dsimp only;refine aV (λc=>ae ⟨_,_,rfl,.bad b c rfl⟩) (λc=>?_)
 have u:=u.resolve_left λb=>c b.1
 obtain⟨_,J,_,ag,E,m⟩:=u;have K:ff o.1:=by rw[m];exact J.move (by decide)
 obtain⟨d,Z,C⟩:=Dx (k:=o.1) e.A 1 2 (by rw[m];exact l);refine c8 (a:=(d.1,d.2)) (by unfold J0;rw[Z,aa]) ?_
 dsimp only;refine aV (λc=>ae ⟨_,_,rfl,.bad b c rfl⟩) (λW=>?_)
 have C:=C.resolve_left λb=>W b.1
 obtain⟨_,_,_,_,_,s⟩:=C;have q:ff d.1:=by rw[s];exact K.move (by decide)
 have x:d.1.af=p.Keys.af:=by rw[s,m]
 have B:d.1.Keys=p.Keys.Keys.set e.A.toNat 2:=by rw[s,m];exact List.set_set _
 have X:d.1.Out=false:=by rw[s]
 rw[afn (by show _<=4611686018427387904;rw[B,d2];omega),aa];refine dy (λ_=>ae ⟨_,_,rfl,.lP rfl (.guard d.1 G x B X E q y.1 H)⟩) (λY=>?_)
 have F:∀i,i∈d.1.Keys->i=2:=λi M=>by
  by_cases c:i=2
  ·exact c
  ·have:(d.1.Keys.any λP=>c5 (P≠2))=true:=List.any_eq_true.2 ⟨i,M,decide_eq_true c⟩;rw[Y] at this;cases this
 obtain⟨w,V,t⟩:=ap1 (k:=d.1) (by rw[x];exact l);rw[V,aa];refine aV (λc=>ae ⟨_,_,rfl,.bad b c rfl⟩) (λS=>?_)
 have t:=t.resolve_left λb=>S b.1
 obtain⟨_,_,_,_,h⟩:=t;refine c8 (a:=p.au.Time) rfl ?_
 have z:w.1.af=p.Keys.af:=by rw[h];exact x
 have ai:=b.mq;have ah:=b.gq.2.1;refine aD (Uw p.ao p.bw w.1.af p.au.Time (n:=p.au.aN.length) (np:=p.ao.ai.length) (by omega) (by rw[b.gk];omega) b.lC.be (by rw[z];exact l) (by show _<=4611686018427387904;omega) (by rw[R,b.gk];exact b.hZ.mX) rfl) λO Q=>ae ⟨_,_,rfl,?_⟩
 rcases Q with⟨v,D⟩ |v
 ·rw[z] at D;refine .lP v (.shut w.1 O.1 G z ?_ ?_ ?_ E ?_ y.1 H D)
  ·rw[h];exact B
  ·rw[h];exact F
  ·rw[h]
  ·rw[h];exact⟨q.1,q.2.1,q.2.2.1,λ_=>F⟩
 ·exact .bad b v rfl
theorem amp(b:dW n np p)(t:e.Kind=5):Ok (yb LC ⟨p,[]⟩ e) λI=>∃g B,I=cT g B/\gi p e g B:=by
 have s:p.au.aN.length=n:=b.iz;have K:=b.n3;have L:=b.mq;have M:=b.key.1.1;unfold yb;refine aD (ZX (x:=p.au) e.A e.B b.kN.fit (by have:=b.kj;have:=b.jR;omega)) λq E=>?_
 rcases E with⟨i,N⟩ |⟨i,r,u,C,A,⟨w,m,o,y,D⟩,j⟩
 ·rw[aC i];exact ae ⟨_,_,rfl,.bad b i rfl⟩
 rw[aG (by rw[i];simp)];refine c8 (a:=p.au.Time) (by unfold fP;rw[j]) ?_
 refine aD (RM p.ao p.bw e.A e.B p.au.Time (n:=p.au.aN.length) (np:=p.ao.ai.length) (by omega) (by rw[b.gk];omega) b.lC.be (by rw[s,b.gk];exact b.hZ.mX)) λh f=>?_
 by_cases c:h.2=0
 rotate_left
 ·rw[aC c,aa,cond_true];exact ae ⟨_,_,rfl,.bad b c rfl⟩
 have f:=f.resolve_right λb=>b.1 c
 rw[aG (by rw[c];simp)];refine c8 (a:=!c5 (0<((p.bq.aA).length:Int))) rfl ?_
 rw[de];refine Or.elim (Decidable.em (0<((p.bq.aA).length:Int))) (λd=>?_) (λd=>?_)
 rotate_left
 ·rw[aG d];refine ae ⟨_,_,rfl,.lP c ?_⟩
  exact .swap q.1 h.1 p.bq w m t r u C A o y D j f.2 (.inl ⟨dk.1 (by omega),rfl⟩)
 rw[aC d]
 ·have F:p.bq.aA≠[]:=λJ=>by rw[J] at d;simp at d
  refine aD (CF (g:=⟨{p with au:=q.1,bw:=h.1},[]⟩) b.gq b.jY (by show p.Keys.af.length<=_;omega)) λz k=>?_
  refine c8 (a:=p.au.Time) (by unfold fP;rw[j]) ?_
  have k:ki p.ao p.Keys.af ⟨z.1,z.2⟩:=k;refine aD (RM ⟨z.1,z.2⟩ p.bq e.A e.B p.au.Time (n:=p.au.aN.length) (np:=p.ao.ai.length) (by omega) (by rw[b.gk];omega) b.lC.se (by rw[s,b.gk];exact b.je.mX)) λv G=>ae ⟨_,_,rfl,?_⟩
  rcases G with⟨l,H⟩ |⟨l,_⟩
  ·exact .lP l (.swap q.1 h.1 v.1 w m t r u C A o y D j f.2 (.inr ⟨_,F,k,H⟩))
  ·exact .bad b l rfl
end
section
variable {n np : Nat} {p : aE} {e : bH}
theorem Uc(c:dW n np p)(b:aB){a:Int}{r:aZ}{nm:List Int}(N:0<=a)(x:p.ao.af[a.toNat]? =c7 r):Ok (xg LC ⟨{p with au:=b},nm⟩ a) λD=>∃g s,D=cT g s/\(s=0->oP {p with au:=b} a g.aI)/\g.aI.bS=p.bS/\g.named=nm:=by
 have j:=c.lC;have ah:=(ea.1 x).1;have ad:=c.uD;have ag:=c.gq.1;have af:=c.gq.2.1;unfold xg;dsimp only;rw[zS j.fl,aa,mV j.pl,aa,nk j.rd,aa];have X:aj p.ao.af a=c7 r:=by unfold aj;rw[if_pos N];exact x
 have A:p.cI[a.toNat]? =c7 (p.cI[a.toNat]'(by omega)):=c6 _;generalize p.cI[a.toNat]'(by omega)=f at A;have V:aj p.cI a=c7 f:=by unfold aj;rw[if_pos N];exact A
 rw[X,aa,x,aa,V,aa,A,aa,aa];have T:ak.mk p.ao.ai (p.ao.af.set a.toNat {r with eN:=true})=cY p.ao a:=by unfold cY;rw[x]
 rw[T];show Ok ((fP LC ⟨{p with au:=b,ao:=cY p.ao a},nm⟩).bind λY=>(kW LC (cY p.ao a) p.bw Y).bind _) _
 refine c8 (a:=b.Time) rfl ?_
 obtain⟨q,Q,y⟩:=Gq (cY p.ao a) p.bw b.Time j.be (by show p.ao.ai.length<=4611686018427387904;omega);rw[Q,aa]
 by_cases m:q.2=0
 rotate_left
 ·rw[aC m];exact ae ⟨⟨{p with au:=b,ao:=cY p.ao a,bw:=q.1},nm⟩,q.2,rfl,λc=>absurd c m,rfl,rfl⟩
 rw[aG (by rw[m];simp)];have y:=y.resolve_right λc=>c.1 m
 obtain⟨_,F,_,_,O⟩:=y;have P:kW LC (cY p.ao a) p.bw b.Time=c7 (q.1,0):=by rw[Q, <-m]
 have S:=uF p.ao a;refine c8 (a:=c5 (0<(p.bq.aA.length:Int))) rfl ?_
 have L:∀(d:aL) (k:ak),((p.bq.aA=[]/\d=p.bq)\/(p.bq.aA≠[]/\ki (cY p.ao a) p.Keys.af k/\gG (λW U=>mP k W b.Time U) p.bq.aA d.aA))->
  Ok (bif c5 (0<((p.bz.an).length:Int)) then
  (fP LC ⟨{p with au:=b,ao:=cY p.ao a,bw:=q.1,bq:=d},nm⟩).bind λZ=>
  (yg LC (p.cI.set a.toNat (bI.mk 0 0)) p.ao p.cI (cY p.ao a) p.bz Z).bind λl=>
  bif c5 (l.2.2≠0) then
   c7 (cT ⟨{p with au:=b,ao:=cY p.ao a,bw:=q.1,bq:=d,bz:=l.2.1},nm⟩ l.2.2)
  else
   c7 (cT ⟨{p with au:=b,ao:=cY p.ao a,bw:=q.1,bq:=d,cI:=l.1,bz:=l.2.1},nm⟩ 0)
  else
   c7 (cT ⟨{p with au:=b,ao:=cY p.ao a,bw:=q.1,bq:=d,cI:=p.cI.set a.toNat (bI.mk 0 0)},nm⟩ 0)) λD=>∃g s,D=cT g s/\(s=0->oP {p with au:=b} a g.aI)/\g.aI.bS=p.bS/\g.named=nm:=by
   intro d k K;refine aV (λC=>?_) (λC=>?_)
   ·refine c8 (a:=b.Time) rfl ?_
    refine aD (akv p.ao p.cI (cY p.ao a) (p.cI.set a.toNat (bI.mk 0 0)) p.bz b.Time) λI H=>?_
    refine aV (λi=>ae ⟨_,_,rfl,λc=>absurd c i,rfl,rfl⟩) (λi=>?_)
    have ab:=H.2.resolve_right λc=>i c.1
    refine ae ⟨_,_,rfl,λ_=>⟨q.1,d,I.1,I.2.1,k,rfl,by rw[H.1,d2],P,F,O,K,.inr ⟨λi=>by rw[i] at C;simp at C,ab.2.1.1⟩⟩,rfl,rfl⟩
   ·exact ae ⟨_,_,rfl,λ_=>⟨q.1,d,_,p.bz,k,rfl,by rw[d2],P,F,O,K,.inl ⟨dk.1 (show p.bz.an.length=0 by omega),rfl⟩⟩,rfl,rfl⟩
 by_cases u:0<(p.bq.aA.length:Int)
 ·rw[aC u];have R:p.bq.aA≠[]:=λi=>by rw[i] at u;simp at u
  obtain⟨z,M,t⟩:=CF (g:=⟨{p with au:=b,ao:=cY p.ao a,bw:=q.1},nm⟩) F (by show cj 0 (((cY p.ao a).af.length:Int) -1) p.Keys.af;rw[S];exact c.jY) (by show p.Keys.af.length<=_;have:=c.key.1.1;omega);have t:ki (cY p.ao a) p.Keys.af ⟨z.1,z.2⟩:=t;obtain⟨v,J,B⟩:=Gq ⟨z.1,z.2⟩ p.bq b.Time j.se (by have:=congrArg List.length t.pl;show z.1.length<=4611686018427387904;have ac:z.1.length=p.ao.ai.length:=this;omega)
  by_cases w:v.2=0
  ·have E:((mT LC ⟨{p with au:=b,ao:=cY p.ao a,bw:=q.1},nm⟩).bind λo=>(fP LC ⟨{p with au:=b,ao:=cY p.ao a,bw:=q.1},nm⟩).bind λG=>(kW LC (ak.mk o.1 o.2) p.bq G).bind λh=>
    bif c5 (h.2≠0) then c7 (dT (iv ⟨{p with au:=b,ao:=cY p.ao a,bw:=q.1,bq:=h.1},nm⟩ h.2):jk⊕jU) else c7 (d7 (fj ⟨{p with au:=b,ao:=cY p.ao a,bw:=q.1,bq:=h.1},nm⟩)))=c7 (d7 (fj ⟨{p with au:=b,ao:=cY p.ao a,bw:=q.1,bq:=v.1},nm⟩)):=by
    rw[M,aa];refine(dL (a:=b.Time) rfl).trans ?_
    rw[J,aa,aG (by rw[w];simp)]
   refine c8 E ?_
   have B:=B.resolve_right λc=>c.1 w
   exact L v.1 ⟨z.1,z.2⟩ (.inr ⟨R,t,B.2.2.2.2⟩)
  ·have E:((mT LC ⟨{p with au:=b,ao:=cY p.ao a,bw:=q.1},nm⟩).bind λo=>(fP LC ⟨{p with au:=b,ao:=cY p.ao a,bw:=q.1},nm⟩).bind λG=>(kW LC (ak.mk o.1 o.2) p.bq G).bind λh=>
    bif c5 (h.2≠0) then c7 (dT (iv ⟨{p with au:=b,ao:=cY p.ao a,bw:=q.1,bq:=h.1},nm⟩ h.2):jk⊕jU) else c7 (d7 (fj ⟨{p with au:=b,ao:=cY p.ao a,bw:=q.1,bq:=h.1},nm⟩)))=c7 (dT (iv ⟨{p with au:=b,ao:=cY p.ao a,bw:=q.1,bq:=v.1},nm⟩ v.2)):=by
    rw[M,aa];refine(dL (a:=b.Time) rfl).trans ?_
    rw[J,aa,aC w]
   refine c8 E ?_
   exact ae ⟨⟨{p with au:=b,ao:=cY p.ao a,bw:=q.1,bq:=v.1},nm⟩,v.2,rfl,λc=>absurd c w,rfl,rfl⟩
 ·rw[aG u,aa];exact L p.bq p.ao (.inl ⟨dk.1 (by omega),rfl⟩)
theorem Oc(a:dW n np p){nm:List Int}:Ok (tM LC ⟨p,nm⟩ e) λf=>∃g b,f=cT g b/\(b=0->fw p.au/\0<=e.A/\(∃r,p.au.ao.af[e.A.toNat]? =c7 r/\r.eN=false)/\oP {p with au:={p.au with ao:=cY p.au.ao e.A,aN:=p.au.aN.map (n8 e.A)}} e.A g.aI)/\g.aI.bS=p.bS/\g.named=nm:=by
 unfold tM;refine aD (Uf (x:=p.au) e.A a.kN.fit) λq j=>?_
 rcases j with⟨c,h⟩ |⟨c,h,i,⟨r,d,u⟩,l⟩
 ·rw[aC c];exact ae ⟨_,_,rfl,λa=>absurd a c,rfl,rfl⟩
 rw[aG (by rw[c];simp),l];refine aD (Uc a {p.au with ao:=cY p.au.ao e.A,aN:=p.au.aN.map (n8 e.A)} (r:=r) (nm:=nm) i (by rw[<-a.fN];exact d)) λf m=>?_
 obtain⟨g,b,rfl,t,k,o⟩:=m;exact ae ⟨g,b,rfl,λs=>⟨h,i,⟨r,d,u⟩,t s⟩,k,o⟩
theorem agT(b:dW n np p)(o:e.Kind=11):Ok (tM LC ⟨p,[]⟩ e) λc=>∃g a,c=cT g a/\gi p e g a:=gh (Oc b) λc k=>by
 obtain⟨g,a,r,j,l,m⟩:=k;refine⟨g,a,r,λq=>?_,λ_=>by rw[l];exact gj.refl b.iI,by rw[m];simp⟩
 obtain⟨d,f,h,i⟩:=j q;exact .xZ _ o d f h i
theorem akk(q:VA p.bS):Ok (bO (λc:List Int×Int=>Co LC ⟨p,[]⟩ c.1 c.2) ([],0)) λg=>g.length<=64/\∀a,a∈g->∃b,b∈p.bS/\fX b 2 a:=by
 have o:=q.1;refine di p.bS.length (λi c=>c.2=(i:Int)/\c.1.length<=i/\∀a,a∈c.1->∃b,b∈p.bS/\fX b 2 a) _ (λi c l j=>?_) (λc j=>?_) _ ⟨rfl,ef _,λa d=>by cases d⟩
 ·obtain⟨r,t⟩:=c;obtain⟨rfl,h,d⟩:=j;dsimp only at h d⊢;unfold Co;dsimp only;have m:=c6 l;have k:=d4 l;generalize p.bS[i]=b at m k;rw[aC,bn,m,aa,aJ];refine aD (Q:=λg:List Int=>g.length<=i+1/\∀a,a∈g->∃b,b∈p.bS/\fX b 2 a) ?_ λg o=>ae ⟨rfl,o⟩
  refine aV (λs=>?_) (λ_=>ae ⟨by omega,d⟩)
  rw[dm (by decide) (by omega),aa];refine ae ⟨by rw[ee];simp;omega,λa f=>?_⟩
  rcases d8.1 f with f |f
  ·exact d a f
  ·rw[d1] at f;exact⟨b,k,s,f.symm⟩
 ·obtain⟨r,t⟩:=c;obtain⟨rfl,h,d⟩:=j;dsimp only at h d⊢;unfold Co;dsimp only;rw[aG];exact ae ⟨by omega,d⟩
theorem abh(o:VA p.bS)(d:ak×List Int×Int)(w:d.2.1.length<=768):Ok (bO (λg:nH=>tB LC d ⟨p,[]⟩ (tP p.cq p.bZ p.bB g) (um g)) (jw ⟨p,d.2.1⟩ 0)) λf=>∃c,f=fj ⟨{p with bS:=c},d.2.1⟩/\gj p.bS c:=by
 refine di d.2.1.length (λi g=>∃c,g=jw ⟨{p with bS:=c},d.2.1⟩ (i:Int)/\gj p.bS c) _ (λi g t l=>?_) (λg l=>?_) _ ⟨p.bS,rfl,gj.refl o⟩
 ·obtain⟨c,rfl,h⟩:=l;show Ok (tB LC d ⟨p,[]⟩ ⟨{p with bS:=c},d.2.1⟩ (i:Int)) _
  unfold tB;rw[aC,bn,c6 t,aa];refine c8 (a:=p.au.Time) rfl ?_
  obtain⟨q,v,r⟩:=QP h.1 2 (d.2.1[i]) 2 p.au.Time;refine c8 v ?_
  have fin:∀j,gj p.bS j->Ok (c7 (d7 (jw ⟨{p with bS:=j},d.2.1⟩ (c3 c4 ((i:Int)+1)))):Option (nH⊕jk)) λf=>match f with
   | .inl s=>∃c,s=jw ⟨{p with bS:=c},d.2.1⟩ ((i+1:Nat):Int)/\gj p.bS c
   | .inr b=>∃c,b=fj ⟨{p with bS:=c},d.2.1⟩/\gj p.bS c:=λj u=>by
   rw[aJ];exact ae ⟨j,rfl,u⟩
  by_cases m:q.2=0
  ·rw[aC m,aa];exact gh (fin q.1 (h.trans r.1)) λf k=>by cases f <;> exact k
  ·rw[aG m,aa];exact gh (fin c h) λf k=>by cases f <;> exact k
 ·obtain⟨c,rfl,h⟩:=l;show Ok (tB LC d ⟨p,[]⟩ ⟨{p with bS:=c},d.2.1⟩ (d.2.1.length:Int)) _
  unfold tB;rw[aG];exact ae ⟨c,rfl,h⟩
theorem af5(c:dW n np p)(z:fw p.au)(G:e.Kind=12):Ok (xQ LC ⟨p,[]⟩ e) λr=>∃g k,r=cT g k/\gi p e g k:=by
 have i:=c.lC;have L:=c.gq.1;have J:=c.gq.2.1;have K:0<=p.au.Time/\p.au.Time<=2147483648:=z.2.2.2.2.1;unfold xQ;dsimp only;rw[aJ,cF,aa]
 by_cases o:0<=e.A/\e.A<=(p.ao.af.length:Int) -1
 rotate_left
 ·rw[decide_eq_false o,Bool.not_false,cond_true,aa,cond_true];exact ae ⟨_,_,rfl,.same c (by decide)⟩
 rw[decide_eq_true o,d9,cond_false];have D:aj p.ao.af e.A=c7 (p.ao.af[e.A.toNat]'(by omega)):=by unfold aj;rw[if_pos o.1];exact c6 _
 rw[D,aa,aa];refine dy (λ_=>ae ⟨_,_,rfl,.same c (by decide)⟩) (λ_=>?_)
 refine c8 (a:=p.au.Time) rfl ?_
 rw[aJ,Oo i.sm,aa];refine aD (akk c.iI) λal x=>?_
 refine c8 (a:=p.au.Time) rfl ?_
 have I:(filled p.bz (p.au.Time+600)).length<=64:=by
  have M:(filled p.bz (p.au.Time+600)).length<=p.bz.an.length:=pQ;have w:=c.mq;have v:p.bz.an.length<=64:=by
   rcases c.pq with j |j
   ·rw[j];simp
   ·omega
  omega
 obtain⟨q,H,f⟩:=Ws (m:=p.ao) (e:={p.bR with dg:=filled p.bz (p.au.Time+600)}) (b:=p.bw) (a:=e.A) (al:=al) (t:=p.au.Time) (ahead:=600) i.pl i.rd ⟨c.kI.1.s,by show(filled p.bz (p.au.Time+600)).length<=4611686018427387904;omega,c.kI.1.h⟩ i.be (by show al.length<=4611686018427387904;have:=x.1;omega);rw[H,aa]
 by_cases d:q.2.2=0
 ·rw[aG (by rw[d];decide),aa];rw[aG (by rw[d];simp)];refine aD (Oc (p:=p) (e:=e) c (nm:=q.2.1)) λr l=>?_
  obtain⟨g,k,rfl,w,j,v⟩:=l;refine ae ⟨g,k,rfl,λh=>?_,λ_=>by rw[j];exact gj.refl c.iI,by rw[v];exact f.1⟩
  obtain⟨y,B,E,C⟩:=w h;exact .xY _ al q G x.2 (f.2 d) y B E C
 ·by_cases s:q.2.2=46
  ·rw[aC s];obtain⟨r,A,u,l,F⟩:=abh c.iI q f.1;refine c8 (a:=fj ⟨{p with bS:=u},q.2.1⟩) ?_ ?_
   ·refine(dL A).trans ?_
    rw[l]
    rfl
   ·rw[aC d];exact ae ⟨⟨{p with bS:=u},q.2.1⟩,q.2.2,rfl,λh=>absurd h d,λ_=>F,f.1⟩
  ·rw[aG s,aa,aC d];exact ae ⟨⟨p,q.2.1⟩,q.2.2,rfl,λh=>absurd h d,λ_=>gj.refl c.iI,f.1⟩
end
section
variable {n np : Nat} {p : aE} {e : bH}
def eL(p:aE)(b:bA)(a:b7):aE:={p with Keys:=b,cL:=a}
theorem aad(d:b7){f:bA}(h0:ff f)(T:f.af=p.Keys.af)(V:f.Out=false):Ok (bO (λu:nH=>qm LC ⟨eL p f d,[]⟩ ⟨p,[]⟩ (tP p.cq p.bZ p.bB u) (um u)) (jw ⟨eL p f d,[]⟩ 0)) λc=>(∃k,c=dT (fj ⟨eL p k d,[]⟩)/\ff k/\k.af=p.Keys.af/\k.Out=false/\∀n,n∈k.Keys->n=0)\/∃k g,c=d7 (iv ⟨eL p k d,[]⟩ g)/\g≠0:=by
 have ab:=h0.2.1;have Z:=h0.1.1;refine di f.Keys.length (λi u=>∃k,u=jw ⟨eL p k d,[]⟩ (i:Int)/\ff k/\k.af=p.Keys.af/\k.Out=false/\k.Keys.length=f.Keys.length/\∀(b:Nat) n,b<i->k.Keys[b]? =c7 n->n=0) _ (λi u ac J=>?_) (λu J=>?_) _ ⟨f,rfl,h0,T,V,rfl,λb n t=>by omega⟩
 ·obtain⟨k,rfl,s,E,M,L,D⟩:=J;show Ok (qm LC ⟨eL p f d,[]⟩ ⟨p,[]⟩ ⟨eL p k d,[]⟩ (i:Int)) _
  unfold qm;have G:k.Keys[i]? =c7 (k.Keys[i]'(by omega)):=c6 _;generalize k.Keys[i]'(by omega)=v at G;have ad:=s.2.2.1 v (fC G);rw[aC (by show(i:Int)<(f.Keys.length:Int);omega)];show Ok ((aj k.Keys (i:Int)).bind _) _
  rw[bn,G,aa];have bad:∀(q:bA) (g:Int),g≠0->Ok (c7 (dT (d7 (iv ⟨eL p q d,[]⟩ g))):Option (nH⊕(jU⊕jk))) λc=>match c with
   | .inl w=>∃k,w=jw ⟨eL p k d,[]⟩ ((i+1:Nat):Int)/\ff k/\k.af=p.Keys.af/\k.Out=false/\k.Keys.length=f.Keys.length/\∀(b:Nat) n,b<i+1->k.Keys[b]? =c7 n->n=0
   | .inr c=>(∃k,c=dT (fj ⟨eL p k d,[]⟩)/\ff k/\k.af=p.Keys.af/\k.Out=false/\∀n,n∈k.Keys->n=0)\/∃k g,c=d7 (iv ⟨eL p k d,[]⟩ g)/\g≠0:=λq g Y=>ae (.inr ⟨q,g,rfl,Y⟩)
  have fin:∀q:bA,ff q->q.af=p.Keys.af->q.Out=false->q.Keys.length=f.Keys.length->(∀(b:Nat) n,b<i+1->q.Keys[b]? =c7 n->n=0)->Ok (c7 (d7 (jw ⟨eL p q d,[]⟩ (c3 c4 ((i:Int)+1)))):Option (nH⊕(jU⊕jk))) λc=>match c with
   | .inl w=>∃k,w=jw ⟨eL p k d,[]⟩ ((i+1:Nat):Int)/\ff k/\k.af=p.Keys.af/\k.Out=false/\k.Keys.length=f.Keys.length/\∀(b:Nat) n,b<i+1->k.Keys[b]? =c7 n->n=0
   | .inr c=>(∃k,c=dT (fj ⟨eL p k d,[]⟩)/\ff k/\k.af=p.Keys.af/\k.Out=false/\∀n,n∈k.Keys->n=0)\/∃k g,c=d7 (iv ⟨eL p k d,[]⟩ g)/\g≠0:=λq x B N z C=>by
   rw[aJ];exact ae ⟨q,rfl,x,B,N,z,C⟩
  have S:∀q:bA,ff q->q.af=p.Keys.af->q.Out=false->q.Keys.length=f.Keys.length->(∀(b:Nat) n,b<i->q.Keys[b]? =c7 n->n=0)->(∃y,q.Keys[i]? =c7 y/\(y=0\/y=1))->Ok ((aj q.Keys (i:Int)).bind λX=>
   (bif c5 (X=1) then
    (vJ LC q (i:Int)).bind λH=>
    bif c5 (H.2≠0) then c7 (dT (iv ⟨eL p H.1 d,[]⟩ H.2)) else c7 (d7 (fj ⟨eL p H.1 d,[]⟩))
    else c7 (d7 (fj ⟨eL p q d,[]⟩)):Option (jk⊕jU)).bind λW=>
   Sum.elim (λU=>c7 (d7 (jw (lu p.cq p.bZ p.bB U) (c3 c4 ((i:Int)+1))))) (λQ=>c7 (dT (d7 (iv (nT p.cq p.bZ p.bB Q) (nO Q))))) W) λc=>match c with
   | .inl w=>∃k,w=jw ⟨eL p k d,[]⟩ ((i+1:Nat):Int)/\ff k/\k.af=p.Keys.af/\k.Out=false/\k.Keys.length=f.Keys.length/\∀(b:Nat) n,b<i+1->k.Keys[b]? =c7 n->n=0
   | .inr c=>(∃k,c=dT (fj ⟨eL p k d,[]⟩)/\ff k/\k.af=p.Keys.af/\k.Out=false/\∀n,n∈k.Keys->n=0)\/∃k g,c=d7 (iv ⟨eL p k d,[]⟩ g)/\g≠0:=λq x B N z C ⟨y,P,af⟩=>by
   rw[bn,P,aa]
   by_cases R:y=1
   ·rw[aC R];obtain⟨h,F,I⟩:=Dx (k:=q) (i:Int) 1 0 (by show _<=4611686018427387904;have:=x.1.1;omega);rw[show vJ LC q (i:Int)=c7 h by unfold vJ;rw[F,aa],aa]
    by_cases o:h.2=0
    ·rw[aG (by rw[o];simp),aa];obtain⟨_,_,_,_,_,j⟩:=I.resolve_left λK=>K.1 o
     rw[d6] at j;refine gh (fin h.1 (by rw[j];exact x.move (by decide)) (by rw[j];exact B) (by rw[j]) (by rw[j,d2];exact z) λb r t l=>?_) λc m=>by cases c <;> exact m
     rw[j] at l
     by_cases A:i=b
     ·subst A;have:(q.Keys.set i 0)[i]? =c7 r:=l;rw[List.getElem?_set_self (by omega)] at this;injection this with this
      exact this.symm
     ·have:(q.Keys.set i 0)[b]? =c7 r:=l;rw[List.getElem?_set_ne A] at this;exact C b r (by omega) this
    ·rw[aC o,aa];exact gh (bad h.1 h.2 o) λc m=>by cases c <;> exact m
   ·rw[aG R,aa];refine gh (fin q x B N z λb r t l=>?_) λc m=>by cases c <;> exact m
    by_cases A:i=b
    ·subst A;rw[P] at l;injection l with l
     omega
    ·exact C b r (by omega) l
  by_cases O:v=2
  ·rw[aC O];obtain⟨h,F,I⟩:=Dx (k:=k) (i:Int) 2 1 (by show _<=4611686018427387904;have:=s.1.1;omega)
   by_cases o:h.2=0
   ·obtain⟨_,_,_,_,_,j⟩:=I.resolve_left λK=>K.1 o
    rw[d6] at j;refine c8 (a:=d7 (fj ⟨eL p h.1 d,[]⟩)) ?_ ?_
    ·show((qu LC k (i:Int)).bind _)=_
     rw[show qu LC k (i:Int)=c7 h by unfold qu;rw[F,aa],aa,aG (by rw[o];simp)]
     rfl
    ·refine gh (S h.1 (by rw[j];exact s.move (by decide)) (by rw[j];exact E) (by rw[j]) (by rw[j,d2];exact L) (λb r t l=>?_) ⟨1,by rw[j];exact List.getElem?_set_self (by omega),.inr rfl⟩) λc m=>by cases c <;> exact m
     rw[j] at l;have:(k.Keys.set i 1)[b]? =c7 r:=l;rw[List.getElem?_set_ne (by omega)] at this;exact D b r t this
   ·refine c8 (a:=dT (iv ⟨eL p h.1 d,[]⟩ h.2)) ?_ ?_
    ·show((qu LC k (i:Int)).bind _)=_
     rw[show qu LC k (i:Int)=c7 h by unfold qu;rw[F,aa],aa,aC o]
     rfl
    ·exact gh (bad h.1 h.2 o) λc m=>by cases c <;> exact m
  ·rw[aG O,aa];exact gh (S k s E M L D ⟨v,G,by omega⟩) λc m=>by cases c <;> exact m
 ·obtain⟨k,rfl,s,E,M,L,D⟩:=J;show Ok (qm LC ⟨eL p f d,[]⟩ ⟨p,[]⟩ ⟨eL p k d,[]⟩ (f.Keys.length:Int)) _
  unfold qm;rw[aG (by show ¬(f.Keys.length:Int)<(f.Keys.length:Int);omega)];refine ae (.inl ⟨k,rfl,s,E,M,λr l=>?_⟩)
  obtain⟨b,t,rfl⟩:=e4.1 l;exact D b _ (by omega) (c6 t)
theorem YJ(c:dW n np p)(M:e.Kind=13):Ok (xE LC ⟨p,[]⟩ e) λi=>∃g f,i=cT g f/\gi p e g f:=by
 have R:=c.key.1.1;have I:=c.key.2.1;unfold xE;refine aD (O5 (k:=p.Keys) (by omega) (by omega)) λQ I=>?_
 refine aV (λ_=>ae ⟨_,_,rfl,.same c (by decide)⟩) (λ_=>?_)
 have B:∀(b:b7) (k:bA),(b=p.cL/\p.cL.State=0\/b=⟨0,0,0,0⟩)->ff k->k.af=p.Keys.af->k.Out=false->Ok ((bO (λs=>qm LC ⟨eL p k b,[]⟩ ⟨p,[]⟩ (tP p.cq p.bZ p.bB s) (um s)) (jw ⟨eL p k b,[]⟩ 0)).bind λz=>
  Sum.elim (λj=>c7 (cT (nT p.cq p.bZ p.bB j) (nO j))) (λt=>let l:=lu p.cq p.bZ p.bB t;c7 (cT (aR.mk ({l.aI with bq:=(aL.mk ([]:List ay))}:aE) l.named) 0)) z) λi=>∃g f,i=cT g f/\gi p e g f:=λb k q E G K=>by
  refine aD (aad b E G K) λi v=>?_
  rcases v with⟨m,rfl,J,F,O,N⟩ |⟨m,f,rfl,P⟩
  ·exact ae ⟨⟨{p with Keys:=m,cL:=b,bq:=⟨[]⟩},[]⟩,0,rfl,.lP rfl (.JF m b M F J O N q)⟩
  ·exact ae ⟨⟨eL p m b,[]⟩,f,rfl,.bad c P rfl⟩
 have A:∀b:b7,(b=p.cL/\p.cL.State=0\/b=⟨0,0,0,0⟩)->Ok ((bif p.Keys.Out then
  (vQ LC p.Keys).bind λr=>
  bif c5 (r.2≠0) then c7 (dT (iv ⟨eL p r.1 b,[]⟩ r.2)) else c7 (d7 (fj ⟨eL p r.1 b,[]⟩))
  else c7 (d7 (fj ⟨eL p p.Keys b,[]⟩)):Option (jk⊕jU)).bind λL=>
  Sum.elim (λH=>
   let C:=lu p.cq p.bZ p.bB H
   (bO (λs=>qm LC C ⟨p,[]⟩ (tP p.cq p.bZ p.bB s) (um s)) (jw C 0)).bind λz=>
    Sum.elim (λj=>c7 (cT (nT p.cq p.bZ p.bB j) (nO j))) (λt=>let l:=lu p.cq p.bZ p.bB t;c7 (cT (aR.mk ({l.aI with bq:=(aL.mk ([]:List ay))}:aE) l.named) 0)) z)
   (λD=>c7 (cT (nT p.cq p.bZ p.bB D) (nO D))) L) λi=>∃g f,i=cT g f/\gi p e g f:=λb q=>by
   cases v:p.Keys.Out with
   |false=>
    rw[cond_false,aa];exact B b p.Keys q c.key rfl v
   |true=>
    rw[cond_true];obtain⟨d,o,u⟩:=Zw (k:=p.Keys) (by show _<=4611686018427387904;omega);rw[o,aa]
    by_cases h:d.2=0
    ·rw[aG (by rw[h];simp),aa];obtain⟨_,_,y⟩:=u.resolve_left λc=>c.1 h
     exact B b d.1 q (by rw[y];exact⟨c.key.1,c.key.2.1,c.key.2.2.1,λc=>by cases c⟩) (by rw[y]) (by rw[y])
    ·rw[aC h,aa];exact ae ⟨⟨eL p d.1 b,[]⟩,d.2,rfl,.bad c h rfl⟩
 by_cases w:p.cL.State=0
 ·rw[aG (by show ¬p.cL.State≠0;simp[w]),aa];exact A p.cL (.inl ⟨rfl,w⟩)
 ·rw[aC w];obtain⟨d,o,u⟩:=Yc (x:=p.bM) (s:=p.cL) p.au.Time (e6 c.qx (by decide))
  by_cases h:d.2=0
  ·refine c8 (a:=d7 (fj ⟨eL p p.Keys d.1,[]⟩)) ?_ ?_
   ·refine(dL (a:=p.au.Time) rfl).trans ?_
    refine(dL o).trans ?_
    rw[aG (by rw[h];simp)]
    rfl
   ·exact A d.1 (.inr (u.resolve_left λc=>c.1 h).2)
  ·refine c8 (a:=dT (iv ⟨eL p p.Keys d.1,[]⟩ d.2)) ?_ ?_
   ·refine(dL (a:=p.au.Time) rfl).trans ?_
    refine(dL o).trans ?_
    rw[aC h]
    rfl
   ·exact ae ⟨⟨eL p p.Keys d.1,[]⟩,d.2,rfl,.bad c h rfl⟩
end
section
variable {n np : Nat} {p : aE} {e : bH}
structure tN (n np:Nat) (p:aE) (rd:aS):Prop where
 n3:n<=3
 mq:np<=64
 gq:cP p.ao
 gk:p.ao.ai.length=np
 jY:cj 0 ((p.ao.af.length:Int) -1) p.Keys.af
 OG:p.Keys.af.length<=12
 hZ:fM n np p.bw
 bne:p.bw.aA≠[]
 je:fM n np p.bq
 BV:Fit rd.ai
 OF:0<=rd.dY/\rd.dY<=10
 OH:1<=rd.dX/\rd.dX<=600
theorem aiU{m h:aS}{r:aT}{u:List aT}{w:Int}(d:tN n np p h){i:List Int}{b c:aL}(s:fv p.ao p.Keys.af p.au.Time m h r u w p.bw p.bq b c){f:dS}(H:DS r m f):Ok (A5 LC ⟨dR p b c,i⟩ f h) λA=>∃o k,A=ol ⟨dR p o k,i⟩ f h/\fv p.ao p.Keys.af p.au.Time m h r u w p.bw p.bq o k:=by
 obtain⟨⟨K,U⟩,O,X⟩:=s.shape d.gk d.hZ d.bne d.je;have V:=d.gq.1;have S:Fit p.ao.ai:=by show _<=4611686018427387904;omega
 unfold A5;obtain⟨q,N,I⟩:=LG p.ao b f.Tag h.ai f.an (min f.To p.au.Time) (K.pR d.n3 d.mq) d.BV S;refine c8 (a:=La f h ⟨dR p b c,i⟩ q.1 q.2) ?_ ?_
 ·unfold uX;refine(dL (a:=p.au.Time) rfl).trans ?_
  refine(dL N).trans rfl
 have E:∀j,fv p.ao p.Keys.af p.au.Time m h r u w p.bw p.bq j c->Ok ((ra LC ⟨dR p j c,i⟩).bind λT=>bif (!T) then c7 (ol ⟨dR p j c,i⟩ f h) else(mT LC ⟨dR p j c,i⟩).bind λC=>(uX LC f h ⟨dR p j c,i⟩ (ak.mk C.1 C.2) c).bind λl=>
  let F:=F7 l
  let G:=HJ l
  let B:=G2 l
  let P:=IB l
  let R:=HV l
  bif c5 (R=0) then c7 (ol (aR.mk ({B.aI with bq:=P}:aE) B.named) F G) else c7 (ol B F G)) λA=>∃o k,A=ol ⟨dR p o k,i⟩ f h/\fv p.ao p.Keys.af p.au.Time m h r u w p.bw p.bq o k:=λj x=>by
  refine c8 (a:=c5 (0<(c.aA.length:Int))) rfl ?_
  rw[de];refine aV (λD=>?_) (λ_=>ae ⟨j,c,rfl,x⟩)
  have J:c.aA≠[]:=λs=>by rw[s] at D;simp at D
  refine aD (CF (g:=⟨dR p j c,i⟩) d.gq d.jY (by show p.Keys.af.length<=_;have:=d.OG;omega)) λz t=>?_
  have t:ki p.ao p.Keys.af ⟨z.1,z.2⟩:=t;have W:z.1.length=p.ao.ai.length:=congrArg List.length t.pl;obtain⟨v,M,L⟩:=LG ⟨z.1,z.2⟩ c f.Tag h.ai f.an (min f.To p.au.Time) (O.pR d.n3 d.mq) d.BV (by show z.1.length<=4611686018427387904;omega);refine c8 (a:=La f h ⟨dR p j c,i⟩ v.1 v.2) ?_ ?_
  ·unfold uX;refine(dL (a:=p.au.Time) rfl).trans ?_
   refine(dL M).trans rfl
  show Ok (bif c5 (v.2=0) then c7 (ol ⟨dR p j v.1,i⟩ f h) else c7 (ol ⟨dR p j c,i⟩ f h)) _
  refine aV (λQ=>ae ⟨j,v.1,rfl,?_⟩) (λ_=>ae ⟨j,c,rfl,x⟩)
  exact .Lt f _ x H J t (L.resolve_right λd=>d.1 Q).2
 by_cases y:q.2=0
 ·refine c8 (a:=qI ⟨dR p q.1 c,i⟩) ?_ (E q.1 (.Ls f s H (I.resolve_right λd=>d.1 y).2))
  show(bif c5 (q.2=0) then _ else _)=_
  rw[aC y]
  rfl
 ·refine c8 (a:=qI ⟨dR p b c,i⟩) ?_ (E b s)
  show(bif c5 (q.2=0) then _ else _)=_
  rw[aG y]
  rfl
theorem afb{w d:aS}{r:aT}{m:List aT}{t:Int}(c:tN n np p d){i:List Int}{b f:aL}(s:fv p.ao p.Keys.af p.au.Time w d r m t p.bw p.bq b f){h:Int}{a:dC}(D:h∉r.aw)(E:nc m t h d a):Ok (zg LC ⟨dR p b f,i⟩ h d a (min a.To p.au.Time)) λA=>∃o l,A=nJ ⟨dR p o l,i⟩ h d a (min a.To p.au.Time)/\fv p.ao p.Keys.af p.au.Time w d r m t p.bw p.bq o l:=by
 obtain⟨⟨M,W⟩,S,Z⟩:=s.shape c.gk c.hZ c.bne c.je;have X:=c.gq.1;have V:Fit p.ao.ai:=by show _<=4611686018427387904;omega
 unfold zg;obtain⟨q,R,K⟩:=Sj p.ao b h d.ai a.an (min a.To p.au.Time) ((d.dY+1)*d.dX) (M.pR c.n3 c.mq) c.BV V;refine c8 (a:=Ft h d a (min a.To p.au.Time) q.1 q.2) ?_ ?_
 ·unfold uQ;refine(dL (LV c.OF c.OH)).trans ?_
  refine(dL R).trans rfl
 have C:∀j,fv p.ao p.Keys.af p.au.Time w d r m t p.bw p.bq j f->Ok ((ra LC ⟨dR p j f,i⟩).bind λQ=>bif (!Q) then c7 (nJ ⟨dR p j f,i⟩ h d a (min a.To p.au.Time)) else(mT LC ⟨dR p j f,i⟩).bind λJ=>(uQ LC h d a (min a.To p.au.Time) (ak.mk J.1 J.2) f).bind λk=>
  let H:=Gy k
  let F:=Ib k
  let I:=HF k
  let G:=I2 k
  let U:=Ir k
  let P:=JK k
  bif c5 (P=0) then c7 (nJ (aR.mk ({ (dR p j f) with bq:=U}:aE) i) H F I G) else c7 (nJ ⟨dR p j f,i⟩ H F I G)) λA=>∃o l,A=nJ ⟨dR p o l,i⟩ h d a (min a.To p.au.Time)/\fv p.ao p.Keys.af p.au.Time w d r m t p.bw p.bq o l:=λj x=>by
  refine c8 (a:=c5 (0<(f.aA.length:Int))) rfl ?_
  rw[de];refine aV (λB=>?_) (λ_=>ae ⟨j,f,rfl,x⟩)
  have L:f.aA≠[]:=λs=>by rw[s] at B;simp at B
  refine aD (CF (g:=⟨dR p j f,i⟩) c.gq c.jY (by show p.Keys.af.length<=_;have:=c.OG;omega)) λz u=>?_
  have u:ki p.ao p.Keys.af ⟨z.1,z.2⟩:=u;have Y:z.1.length=p.ao.ai.length:=congrArg List.length u.pl;obtain⟨v,O,N⟩:=Sj ⟨z.1,z.2⟩ f h d.ai a.an (min a.To p.au.Time) ((d.dY+1)*d.dX) (S.pR c.n3 c.mq) c.BV (by show z.1.length<=4611686018427387904;omega);refine c8 (a:=Ft h d a (min a.To p.au.Time) v.1 v.2) ?_ ?_
  ·unfold uQ;refine(dL (LV c.OF c.OH)).trans ?_
   refine(dL O).trans rfl
  show Ok (bif c5 (v.2=0) then c7 (nJ ⟨dR p j v.1,i⟩ h d a (min a.To p.au.Time)) else c7 (nJ ⟨dR p j f,i⟩ h d a (min a.To p.au.Time))) _
  refine aV (λT=>ae ⟨j,v.1,rfl,?_⟩) (λ_=>ae ⟨j,f,rfl,x⟩)
  exact .Lu h a _ x D E L u (N.resolve_right λc=>c.1 T).2
 by_cases y:q.2=0
 ·refine c8 (a:=qI ⟨dR p q.1 f,i⟩) ?_ (C q.1 (.abs h a s D E (K.resolve_right λc=>c.1 y).2))
  show(bif c5 (q.2=0) then _ else _)=_
  rw[aC y]
  rfl
 ·refine c8 (a:=qI ⟨dR p b f,i⟩) ?_ (C b s)
  show(bif c5 (q.2=0) then _ else _)=_
  rw[aG y]
theorem aa6{rs c:aS}{r:aT}{d:Nat}(f:tN n np p c){nm:List Int}{b h:aL}(l:fv p.ao p.Keys.af p.au.Time rs c r p.bZ (d:Int) p.bw p.bq b h){i:Int}(z:i∉r.aw)(s:p.au.aQ[d]? =c7 c)(x:∀c,c∈p.au.aQ->0<=c.cR/\c.cR<=60)(B:∀r,r∈p.bZ->Fit r.aw):Ok (Eb LC ⟨dR p b h,nm⟩ (d:Int) i) λv=>∃k g,v=mf ⟨dR p k g,nm⟩/\fv p.ao p.Keys.af p.au.Time rs c r p.bZ (d:Int) p.bw p.bq k g:=by
 unfold Eb;show Ok ((aj p.au.aQ (d:Int)).bind _) _
 rw[bn,s,aa];show Ok ((xp LC p.au.aQ (d:Int) i p.bZ).bind _) _
 refine aD (ag3 (rs:=p.au.aQ) (d:Int) i p.bZ x B) λq m=>?_
 have A:(bif c5 (q.2≠0) then c7 true else c7 (c5 ((q.1.length:Int)=0)):Option Bool)=c7 (c5 (q.2≠0\/(q.1.length:Int)=0)):=ew rfl;refine c8 A ?_
 refine aV (λ_=>ae ⟨b,h,rfl,l⟩) (λt=>?_)
 have C:q.2=0:=by by_cases f:q.2=0;exact f;exact absurd (.inl f) t
 have F:q.1.length≠0:=λf=>t (.inr (by omega))
 obtain⟨_,E,j,D⟩:=m.2 C;rw[d6,s] at j;injection j with j
 subst j;have G:=m.1;rw[aJ,show((q.1.length:Int) -1)=((q.1.length -1:Nat):Int) by omega,bn];have u:=c6 (show q.1.length -1<q.1.length by omega);have o:=d4 (show q.1.length -1<q.1.length by omega);generalize q.1[q.1.length -1]=a at u o;rw[u,aa];refine c8 (a:=p.au.Time) rfl ?_
 refine aV (λ_=>ae ⟨b,h,rfl,l⟩) (λ_=>?_)
 refine aD (afb f l z (D a o)) λv w=>?_
 obtain⟨k,g,rfl,y⟩:=w;exact ae ⟨k,g,rfl,y⟩
end
section
variable {n np : Nat} {p : aE} {e : bH}
theorem am8{h d:aS}{r:aT}{k:Nat}(t:tN n np p d)(c:List dS×Int)(y:c.1.length<=20)(w:∀a,a∈c.1->DS r h a):Ok (bO (λa:ug=>sC LC c (Q2 a) (Qd a) (R9 a)) (Cb ⟨p,[]⟩ d 0)) λq=>∃g f,q=mf ⟨dR p g f,[]⟩/\fv p.ao p.Keys.af p.au.Time h d r p.bZ (k:Int) p.bw p.bq g f:=by
 refine di c.1.length (λi a=>∃g f,a=Cb ⟨dR p g f,[]⟩ d (i:Int)/\fv p.ao p.Keys.af p.au.Time h d r p.bZ (k:Int) p.bw p.bq g f) _ (λi a o l=>?_) (λa l=>?_) _ ⟨p.bw,p.bq,rfl,.nil⟩
 ·obtain⟨b,a,rfl,j⟩:=l;show Ok (sC LC c ⟨dR p b a,[]⟩ d (i:Int)) _
  unfold sC;have s:=c6 o;have m:=d4 o;generalize c.1[i]=u at s m;rw[aC,bn,s,aa,aa];refine aD (aiU t j (w u m)) λq v=>?_
  obtain⟨g,f,rfl,x⟩:=v;rw[aJ];exact ae ⟨g,f,rfl,x⟩
 ·obtain⟨b,a,rfl,j⟩:=l;show Ok (sC LC c ⟨dR p b a,[]⟩ d (c.1.length:Int)) _
  unfold sC;rw[aG];exact ae ⟨b,a,rfl,j⟩
theorem acB{l f:aS}{r:aT}{k:Nat}(C:tN n np p f)(j:List Int)(I:j.length<=1000){v q:aL}(z:fv p.ao p.Keys.af p.au.Time l f r p.bZ (k:Int) p.bw p.bq v q)(A:p.au.aQ[k]? =c7 f)(E:∀f,f∈p.au.aQ->0<=f.cR/\f.cR<=60)(G:∀r,r∈p.bZ->Fit r.aw)(F:Fit r.aw)(D:e.A=(k:Int)):Ok (bO (λg:uy=>uN LC j (r,0) e (Si g) (LF g)) (uZ ⟨dR p v q,[]⟩ 0)) λh=>∃c d,h=mf ⟨dR p c d,[]⟩/\fv p.ao p.Keys.af p.au.Time l f r p.bZ (k:Int) p.bw p.bq c d:=by
 refine di j.length (λi g=>∃c d,g=uZ ⟨dR p c d,[]⟩ (i:Int)/\fv p.ao p.Keys.af p.au.Time l f r p.bZ (k:Int) p.bw p.bq c d) _ (λi g y s=>?_) (λg s=>?_) _ ⟨v,q,rfl,z⟩
 ·obtain⟨b,g,rfl,m⟩:=s;show Ok (uN LC j (r,0) e ⟨dR p b g,[]⟩ (i:Int)) _
  unfold uN;dsimp only;have x:=c6 y;generalize j[i]=H at x;rw[aC,bn,x,aa,contains_eq F,aa,de];have fin:∀c d,fv p.ao p.Keys.af p.au.Time l f r p.bZ (k:Int) p.bw p.bq c d->Ok (c7 (d7 (uZ ⟨dR p c d,[]⟩ (c3 c4 ((i:Int)+1)))):Option (uy⊕rY)) λh=>match h with
   | .inl d=>∃c w,d=uZ ⟨dR p c w,[]⟩ ((i+1:Nat):Int)/\fv p.ao p.Keys.af p.au.Time l f r p.bZ (k:Int) p.bw p.bq c w
   | .inr h=>∃c d,h=mf ⟨dR p c d,[]⟩/\fv p.ao p.Keys.af p.au.Time l f r p.bZ (k:Int) p.bw p.bq c d:=λc d u=>by
   rw[aJ];exact ae ⟨c,d,rfl,u⟩
  by_cases t:H∈r.aw
  ·rw[aC t,aa];exact gh (fin b g m) λh o=>by cases h <;> exact o
  ·rw[aG t,D];obtain⟨h,B,c,d,rfl,u⟩:=aa6 (nm:=[]) C m t A E G;refine c8 (a:=mf ⟨dR p c d,[]⟩) ?_ ?_
   ·exact(dL B).trans rfl
   ·exact gh (fin c d u) λh o=>by cases h <;> exact o
 ·obtain⟨b,g,rfl,m⟩:=s;show Ok (uN LC j (r,0) e ⟨dR p b g,[]⟩ (j.length:Int)) _
  unfold uN;rw[aG];exact ae ⟨b,g,rfl,m⟩
theorem aoV(a:dW n np p)(m:fw p.au)(Z:e.Kind=4):Ok (wP LC ⟨p,[]⟩ e) λC=>∃g Q,C=dp g Q/\gi p e g Q:=by
 have o:=a.lC;have R:=a.n3;have aw:=a.kn;have ah:=a.jR;have an:p.au.cn.length=p.au.aQ.length:=m.2.2.2.2.2.1;unfold wP;dsimp only;rw[aJ,cF,aa,de];refine aV (λaq=>?_) (λ_=>ae ⟨_,_,rfl,.same a (by decide)⟩)
 obtain⟨k,y⟩:∃k:Nat,e.A=(k:Int):=⟨e.A.toNat,by omega⟩;have E:k<p.cq.length:=by omega
 rw[y,bn,bn,d6];have D:=c6 (show k<p.au.cn.length by omega);generalize p.au.cn[k]=num at D;have u:=c6 E;have L:=d4 E;generalize p.cq[k]=r at u L;have t:=c6 (show k<p.au.aQ.length by omega);have J:=d4 (show k<p.au.aQ.length by omega);generalize p.au.aQ[k]=b at t J;have al:=a.rX r L;have f:Fit r.aw:=by show _<=4611686018427387904;omega
 rw[D,aa];refine aV (λ_=>ae ⟨_,_,rfl,.same a (by decide)⟩) (λar=>?_)
 rw[u,aa,aa,WJ f]
 by_cases s:kb r
 rotate_left
 ·rw[if_neg s,aa];exact ae ⟨_,_,rfl,.same a (by decide)⟩
 rw[if_pos s,aa,aG (by simp)];rw[anb s,aa,aG (by simp)];dsimp only;obtain⟨j,ag,M⟩:=abN (x:=p.cW) (r:=r) o.il o.io f;rw[ag,aa];refine aV (λd=>ae ⟨_,_,rfl,.bad a d rfl⟩) (λd=>?_)
 have ao:=a.uB;rw[dm (by decide) (by omega),aa];have ak:(p.bZ++[r]).length=p.bZ.length+1:=by simp
 rw[aJ,l8 (by omega) (by omega) (by omega),aa];generalize ai:max 0 (((p.bZ++[r]).length:Int) -60)=h;have W:((p.bZ++[r]).drop h.toNat).take ((((p.bZ++[r]).length:Int)).toNat -h.toNat)=(p.bZ++[r]).drop h.toNat:=List.take_of_length_le (by rw[List.length_drop];omega);rw[W];have K:∀b,b∈p.au.aQ->0<=b.cR/\b.cR<=60:=λb T=>(m.1.2.2 b T).2.2.2.2
 obtain⟨C,U,G⟩:=Xo (l:=p.au.aQ) (r:=r) f K;rw[U,aa];refine aV (λd=>ae ⟨_,_,rfl,.bad a d rfl⟩) (λd=>?_)
 obtain⟨_,V,ab,af⟩:=G.2 (ei.1 d);rw[bn,t,aa];have A:=m.1.2.2 b J;have au:=m.1.1.1;have P:tN n np ({p with bZ:=(p.bZ++[r]).drop h.toNat,cW:=j.1}:aE) b:=⟨R.2,a.mq,a.gq,a.gk,a.jY,by have:=a.key.1.1;show p.Keys.af.length<=12;omega,a.hZ,a.bne,a.je,by have:=A.2.1.len (by omega);show b.ai.length<=4611686018427387904;omega,A.2.2.2.1,A.2.2.1⟩;refine aD (am8 (k:=k) P C G.1 af) λz w=>?_
 obtain⟨i,av,rfl,N⟩:=w;obtain⟨⟨S,B⟩,ap,ax⟩:=N.shape a.gk a.hZ a.bne a.je;have O:i.aA[0]? =c7 (i.aA[0]'(dt.2 B)):=c6 _;have I:=d4 (dt.2 B);generalize i.aA[0]'(dt.2 B)=v at O I;have am:=(S.mX v I).2;show Ok ((aj i.aA 0).bind λac=>(cc LC ac.aw).bind _) _
 rw[show aj i.aA 0=c7 v from O,aa,bV (cX (n:=3) (by omega) (by decide)),aa];refine aD (acB (k:=k) P v.aw (by omega) N t K (λq c=>?_) f y) λz w=>?_
 ·have:q∈p.bZ++[r]:=List.mem_of_mem_drop c;rcases d8.1 this with c |c
  ·have:=a.rW q c;show _<=4611686018427387904;omega
  ·rw[d1] at c;rw[c];exact f
 obtain⟨F,H,rfl,ad⟩:=w;have Y:=o.il;have X:=o.io;refine ae ⟨⟨{p with bZ:=(p.bZ++[r]).drop h.toNat,cW:=j.1,bw:=F,bq:=H},[]⟩,0,rfl,.lP rfl (.JE k V b r num _ j.1 F H Z y D (by omega) u s t ab ⟨_,rfl⟩ ?_ ⟨?_,?_⟩ ad)⟩
 ·rw[List.length_drop];omega
 ·show j.1.dl.length<=_;rw[M.1];exact Y
 ·show j.1.dr.length<=_;rw[M.2.1];exact X
theorem oP.mD{x:aB}{a:Int}{o:aE}(h:dW n np p)(F:ny x)(w:x.ao=cY p.ao a)(E:x.aN.length=n)(l:x.aQ=p.au.aQ)(G:x.bp.length=x.aQ.length)(C:oP {p with au:=x} a o):dW n np o:=by
 obtain⟨b,s,fl,sm,y,rfl,k,_,B,t,d,c⟩:=C.ex;have u:=uF p.ao a;have A:fM n np b:=h.hZ.renew (m:=cY p.ao a) h.gk t;refine {n3:=h.n3,kN:=F,fN:=w,gq:=B,gk:=h.gk,iz:=E,jR:=by show x.aQ.length<=3;rw[l];exact h.jR,kj:=G,uD:=?_,kI:=h.kI,qx:=h.qx,kn:=by show p.cq.length=x.aQ.length;rw[l];exact h.kn,rX:=h.rX,uB:=h.uB,rW:=h.rW,int:=h.int,hZ:=A,bne:=?_,je:=?_,pq:=?_,key:=h.key,jY:=?_,iI:=h.iI,log:=h.log,uC:=h.uC}
 ·show fl.length=(cY p.ao a).af.length
  rw[u];have k:fl.length=p.cI.length:=k;rw[k];exact h.uD
 ·show b.aA≠[]
  intro D;have:=t.1;rw[D] at this;exact h.bne (dk.1 this.symm)
 ·rcases d with⟨_,d⟩ |⟨_,d,c⟩
  ·show fM n np s
   rw[d];exact h.je
  ·exact h.je.renew (m:=y) (by rw[d.pl];exact h.gk) c
 ·rcases c with⟨c,j⟩ |⟨_,j⟩
  ·show sm.an=[]\/sm.an.length=np
   rw[j];exact .inl c
  ·exact .inr (by show sm.an.length=np;rw[j];exact h.gk)
 ·show cj 0 (((cY p.ao a).af.length:Int) -1) p.Keys.af
  rw[u];exact h.jY
theorem gC.mD{B:aE}(h:dW n np p)(E:gC p e B):dW n np B:=by
 have ht:=h.kN;cases E with
 |wait _ _ _ _=>exact {h with kN:={ht with pe:=by show(p.au.aN.map _).length<=_;rw[d3];exact ht.pe},fN:=h.fN,iz:=by show(p.au.aN.map _).length=n;rw[d3];exact h.iz,jR:=h.jR,kj:=h.kj,kn:=h.kn}
 |walk R _ _ _ _ _ _ _ _=>exact {h with kN:={ht with pe:=by show(p.au.aN.set _ _).length<=_;rw[d2];exact ht.pe},fN:=h.fN,iz:=by show(p.au.aN.set _ _).length=n;rw[d2];exact h.iz,jR:=h.jR,kj:=h.kj,kn:=h.kn}
 |look k rd Y r _ _ t=>
  obtain⟨row,Z,W,a,o,l,m,C,j,y,D,V,G,u⟩:=t.ex;rw[u];have S:=ht.mr row (fC l);refine {h with kN:={ht with nu:=by show(p.au.cn.set _ _).length<=_;rw[d2];exact ht.nu,lo:=by show(p.au.cf.set _ _).length<=_;rw[d2];exact ht.lo,mi:=by show(p.au.bp.set _ _).length<=_;rw[d2];exact ht.mi,mr:=λq c=>?_},fN:=h.fN,iz:=h.iz,jR:=h.jR,kj:=by show(p.au.bp.set _ _).length=_;rw[d2];exact h.kj,kn:=by show(p.cq.set _ _).length=_;rw[d2];exact h.kn,rX:=λq c=>?_}
  ·rcases ec c with c |rfl
   ·exact ht.mr q c
   ·show _<=_;rw[j.len];exact S
  ·rcases ec c with c |rfl
   ·exact h.rX q c
   ·rw[G,uP];have:=j.tl;have:=h.iz;have:=h.n3;omega
 |JE k rs rd r num E x b s _ _ _ _ aa N _ _ J K u T=>
  obtain⟨⟨H,L⟩,M,ab⟩:=T.shape h.gk h.hZ h.bne h.je;refine {h with uB:=K,rW:=λq c=>?_,int:=u,hZ:=H,bne:=L,je:=M}
  obtain⟨d,rfl⟩:=J;rcases d8.1 (List.mem_of_mem_drop c) with c |c
  ·exact h.rW q c
  ·rw[d1] at c;have:=N.2.2.2.1;rw[c];omega
 |swap x b s R U _ _ _ _ _ _ _ _ u w j=>
  rw[u];have F:=h.iz;have A:=h.gk;rw[F,A] at w;have sl:∀{o:List Int},(gL e.A e.B o).length=o.length:=by
   intro o;unfold gL
   split
   ·rw[d2,d2]
   ·rfl
  refine {h with kN:={ht with tg:=by show(gL _ _ _).length<=_;rw[sl];exact ht.tg,mi:=by show(p.au.bp.map _).length<=_;rw[d3];exact ht.mi,mr:=λq c=>?_},fN:=h.fN,iz:=h.iz,jR:=h.jR,kj:=by show(p.au.bp.map _).length=_;rw[d3];exact h.kj,kn:=h.kn,hZ:=h.hZ.Np w,bne:=?_,je:=?_}
  ·obtain⟨Q,O,rfl⟩:=List.mem_map.1 c;show _<=_;rw[sl];exact ht.mr Q O
  ·obtain⟨o,l,m,_⟩:=w.ex;exact l.e m
  ·rcases j with⟨_,j⟩ |⟨X,_,_,j⟩
   ·show fM n np s;rw[j];exact h.je
   ·rw[F,A] at j;exact h.je.Np j
 |JD sm al _ j P _=>exact {h with pq:=.inr (by rw[j];exact h.gk),iI:=P.1}
 |guard k _ l m C _ y _ _=>exact {h with key:=y,jY:=by show cj 0 _ k.af;rw[l];exact h.jY}
 |shut k s _ l m C y _ D _ _ j=>
  rw[h.iz,h.gk] at j;exact {h with key:=D,jY:=by show cj 0 _ k.af;rw[l];exact h.jY,je:=h.hZ.shut j}
 |xX st _ _ _=>exact {h with}
 |xZ _ _ I _ _ t=>exact oP.mD (x:={p.au with ao:=cY p.au.ao e.A,aN:=p.au.aN.map (n8 e.A)}) (a:=e.A) h {ht with rd:=by show(cY p.au.ao e.A).af.length<=_;rw[uF];exact ht.rd,pe:=by show(p.au.aN.map _).length<=_;rw[d3];exact ht.pe} (by show cY p.au.ao e.A=_;rw[h.fN]) (by show(p.au.aN.map _).length=n;rw[d3];exact h.iz) rfl h.kj t
 |xY _ al q _ _ _ I _ _ t=>exact oP.mD (x:={p.au with ao:=cY p.au.ao e.A,aN:=p.au.aN.map (n8 e.A)}) (a:=e.A) h {ht with rd:=by show(cY p.au.ao e.A).af.length<=_;rw[uF];exact ht.rd,pe:=by show(p.au.aN.map _).length<=_;rw[d3];exact ht.pe} (by show cY p.au.ao e.A=_;rw[h.fN]) (by show(p.au.aN.map _).length=n;rw[d3];exact h.iz) rfl h.kj t
 |JF k st _ l m _ _ _=>exact {h with key:=m,jY:=by show cj 0 _ k.af;rw[l];exact h.jY,je:=.nil}
end
theorem gC.log{p c:aE}{e:bH}(h:gC p e c):c.bB=p.bB:=by
 cases h with
 |xZ _ _ _ _ _ a=>obtain⟨b,s,fl,sm,d,rfl,_⟩:=a.ex;rfl
 |xY _ _ _ _ _ _ _ _ _ a=>obtain⟨b,s,fl,sm,d,rfl,_⟩:=a.ex;rfl
 |_=>rfl
inductive oA (p:aE) (e:bH):aE->Int->Prop
 |no (c:Int):c=2\/c=6->oA p e p c
 |bad (al:List cy) (nm:List Int) (c:Int):c≠0->gj p.bS al->nm.length<=768->p.bB.length<200->fw p.au->oA p e {p with bS:=al,bB:=p.bB++[⟨e,p.au.Time,c,nm⟩]} c
 |zI (q:aE) (nm:List Int):gC p e q->nm.length<=768->p.bB.length<200->fw p.au->oA p e {q with bB:=p.bB++[⟨e,p.au.Time,0,nm⟩]} 0
theorem acG{a:Int}(b:1<=a/\a<=13):lK a=c7 (102+a.toNat):=by
 unfold lK;rw[aC b.1,aC b.2]
theorem akh{a:Int}(c:¬(1<=a/\a<=13)):lK a=none:=by
 unfold lK
 by_cases b:1<=a
 ·rw[aC b,aG (λd=>c ⟨b,d⟩)]
 ·rw[aG b]
def J6(p:aE)(a:bH):Prop:=a.Kind=3->0<=a.A/\a.A<max 1 (p.au.aQ.length:Int)
theorem Wq{C y:Nat}{p:aE}{e:bH}(j:dW C y p)(x:J6 p e):Ok (w7 LC p e) λr=>oA p e r.1 r.2:=by
 have u:=j.lC;unfold w7;refine aV (λ_=>ae (.no 2 (.inl rfl))) (λD=>?_)
 obtain⟨v,A,z⟩:=U4 j;rw[A,aa];cases v with
 |false=>exact ae (.no 6 (.inr rfl))
 |true=>
  have m:=z rfl;rw[d9,cond_false,aiT u,aa];dsimp only;rw[show SD (IW p)=p from rfl];refine c8 (a:=lK e.Kind) rfl ?_
  have k:∀{o:Option qz},Ok o (λb=>∃g c,b=dp g c/\gi p e g c)->Ok (o.bind λb=>c7 (dp (iS b) (iJ b))) λb=>∃g c,b=dp g c/\gi p e g c:=λ{o} j=>aD j λb i=>by
   obtain⟨g,c,rfl,f⟩:=i;exact ae ⟨g,c,rfl,f⟩
  refine aD (Q:=λb:qz=>∃g c,b=dp g c/\gi p e g c) ?_ λb i=>?_
  ·by_cases h:1<=e.Kind/\e.Kind<=13
   rotate_left
   ·rw[akh h];exact ae ⟨⟨p,[]⟩,55,rfl,.same j (by decide)⟩
   rw[acG h];have:e.Kind=1\/e.Kind=2\/e.Kind=3\/e.Kind=4\/e.Kind=5\/e.Kind=6\/e.Kind=7\/e.Kind=8\/e.Kind=9\/e.Kind=10\/e.Kind=11\/e.Kind=12\/e.Kind=13:=by omega
   rcases this with h |h |h |h |h |h |h |h |h |h |h |h |h <;> rw[h]
   ·show Ok (((xR LC (aR.mk p ([]:List Int)) e).bind λd=>c7 (dp (fR d) (fT d))).bind λb=>c7 (dp (iS b) (iJ b))) _
    exact k (aD (Wo j h) λb i=>by obtain⟨g,c,rfl,f⟩:=i;exact ae ⟨g,c,rfl,f⟩)
   ·show Ok (((yV LC (aR.mk p ([]:List Int)) e).bind λd=>c7 (dp (fR d) (fT d))).bind λb=>c7 (dp (iS b) (iJ b))) _
    exact k (aD (aku j h) λb i=>by obtain⟨g,c,rfl,f⟩:=i;exact ae ⟨g,c,rfl,f⟩)
   ·show Ok (((yT LC (aR.mk p ([]:List Int)) e).bind λd=>c7 (dp (fR d) (fT d))).bind λb=>c7 (dp (iS b) (iJ b))) _
    exact k (aD (anv j h (x h).1 (x h).2) λb i=>by obtain⟨g,c,rfl,f⟩:=i;exact ae ⟨g,c,rfl,f⟩)
   ·show Ok (((wP LC (aR.mk p ([]:List Int)) e).bind λd=>c7 (dp (iS d) (iJ d))).bind λb=>c7 (dp (iS b) (iJ b))) _
    exact k (aD (aoV j m h) λb i=>by obtain⟨g,c,rfl,f⟩:=i;exact ae ⟨g,c,rfl,f⟩)
   ·show Ok (((yb LC (aR.mk p ([]:List Int)) e).bind λd=>c7 (dp (fR d) (fT d))).bind λb=>c7 (dp (iS b) (iJ b))) _
    exact k (aD (amp j h) λb i=>by obtain⟨g,c,rfl,f⟩:=i;exact ae ⟨g,c,rfl,f⟩)
   ·show Ok (((xy LC (aR.mk p ([]:List Int)) e).bind λd=>c7 (dp (fR d) (fT d))).bind λb=>c7 (dp (iS b) (iJ b))) _
    exact k (aD (aiX j h) λb i=>by obtain⟨g,c,rfl,f⟩:=i;exact ae ⟨g,c,rfl,f⟩)
   ·show Ok (((vA LC (aR.mk p ([]:List Int)) e).bind λd=>c7 (dp (fR d) (fT d))).bind λb=>c7 (dp (iS b) (iJ b))) _
    exact k (aD (anG j h) λb i=>by obtain⟨g,c,rfl,f⟩:=i;exact ae ⟨g,c,rfl,f⟩)
   ·show Ok (((vm LC (aR.mk p ([]:List Int)) e).bind λd=>c7 (dp (fR d) (fT d))).bind λb=>c7 (dp (iS b) (iJ b))) _
    exact k (aD (Zi j h) λb i=>by obtain⟨g,c,rfl,f⟩:=i;exact ae ⟨g,c,rfl,f⟩)
   ·show Ok (((wR LC (aR.mk p ([]:List Int)) e).bind λd=>c7 (dp (fR d) (fT d))).bind λb=>c7 (dp (iS b) (iJ b))) _
    exact k (aD (amE j h) λb i=>by obtain⟨g,c,rfl,f⟩:=i;exact ae ⟨g,c,rfl,f⟩)
   ·show Ok (((yu LC (aR.mk p ([]:List Int)) e).bind λd=>c7 (dp (fR d) (fT d))).bind λb=>c7 (dp (iS b) (iJ b))) _
    exact k (aD (aeC j h) λb i=>by obtain⟨g,c,rfl,f⟩:=i;exact ae ⟨g,c,rfl,f⟩)
   ·show Ok (((tM LC (aR.mk p ([]:List Int)) e).bind λd=>c7 (dp (fR d) (fT d))).bind λb=>c7 (dp (iS b) (iJ b))) _
    exact k (aD (agT j h) λb i=>by obtain⟨g,c,rfl,f⟩:=i;exact ae ⟨g,c,rfl,f⟩)
   ·show Ok (((xQ LC (aR.mk p ([]:List Int)) e).bind λd=>c7 (dp (fR d) (fT d))).bind λb=>c7 (dp (iS b) (iJ b))) _
    exact k (aD (af5 j m h) λb i=>by obtain⟨g,c,rfl,f⟩:=i;exact ae ⟨g,c,rfl,f⟩)
   ·show Ok (((xE LC (aR.mk p ([]:List Int)) e).bind λd=>c7 (dp (fR d) (fT d))).bind λb=>c7 (dp (iS b) (iJ b))) _
    exact k (aD (YJ j h) λb i=>by obtain⟨g,c,rfl,f⟩:=i;exact ae ⟨g,c,rfl,f⟩)
  ·obtain⟨g,c,rfl,f⟩:=i;rw[show iS (dp g c)=g from rfl,show iJ (dp g c)=c from rfl];have t:p.bB.length<200:=by omega
   by_cases l:c=0
   ·rw[aG (by rw[l];simp),aa];show Ok ((bj 72 g.aI.bB ([(dK.mk e p.au.Time c g.named)]:List dK)).bind λq=>c7 (({g.aI with bB:=q}:aE),c)) _
    have w:=f.ok l;rw[w.log,dm (by decide) (by omega),aa,l];exact ae (.zI g.aI g.named w f.nm t m)
   ·rw[aC l,abE u,aa];have fin:∀n,gj p.bS n->Ok ((bj 72 p.bB ([(dK.mk e p.au.Time c g.named)]:List dK)).bind λq=>c7 (({p with bS:=n,bB:=q}:aE),c)) λr=>oA p e r.1 r.2:=λn B=>by
     rw[dm (by decide) (by omega),aa];exact ae (.bad n g.named c l B f.nm t m)
    by_cases s:c=46
    ·refine c8 (a:=lR {p with bS:=g.aI.bS}) ?_ (fin _ (f.iI l))
     rw[aC s,aa]
     rfl
    ·refine c8 (a:=lR p) ?_ (fin p.bS (gj.refl j.iI))
     rw[aG s,aa]
     rfl
theorem oA.mD{n np:Nat}{p l:aE}{e:bH}{c:Int}(h:dW n np p)(w:oA p e l c):dW n np l:=by
 have lg:∀{q:aE} {x:dK},dW n np q->p.bB.length<200->x.ll.length<=768->dW n np {q with bB:=p.bB++[x]}:=by
  intro q x o y s;have a1:(p.bB++[x]).length<=200:=by rw[ee];simp;omega
  have u:∀d,d∈p.bB++[x]->d.ll.length<=768:=by
   intro d a;rcases d8.1 a with a |a
   ·exact h.uC d a
   ·rw[d1] at a;rw[a];exact s
  exact {o with log:=a1,uC:=u}
 cases w with
 |no c _=>exact h
 |bad al nm c _ t k j _=>exact lg (q:={p with bS:=al}) {h with iI:=t.1} j k
 |zI q nm m k j _=>exact lg (m.mD h) j k
def DI(l:List Int)(b:List Int)(a:Int):Prop:=b=l/\0<=a/\a<=400
theorem DI.init{l:List Int}:DI l l 0:=⟨rfl,e0 _,by decide⟩
section
variable {l : List Int}
theorem lW(o:l.length<=400){d:bD}(f:DI l d.L d.At)(n:Int)(p:n<=1000000):Ok (eO LC d n) λr=>DI l r.1 r.2.1/\0<=r.2.2/\(r.2.2<n\/r.2.2=0):=by
 obtain⟨b,a,h⟩:=f;unfold eO;refine aV (λ_=>ae ⟨⟨b,a,h⟩,e0 _,.inr rfl⟩) (λe=>?_)
 rw[b] at e⊢;rw[aJ (n:=d.At+1),show d.At+1 -1=d.At by omega,aJ,jF 0 a (by omega),aa];generalize l.getD d.At.toNat 0=c;refine aD (Q:=λr:Int=>0<=r/\(r<n\/r=0)) ?_ λr g=>ae ⟨⟨rfl,by dsimp only;omega,by dsimp only;omega⟩,g⟩
 unfold Ie;refine aV (λ_=>ae ⟨e0 _,.inr rfl⟩) (λk=>?_)
 rw[D7 (by omega),aa];have i:=Int.tmod_lt_of_pos c (show 0<n by omega);have m:=Int.lt_tmod_of_pos c (show 0<n by omega);refine aV (λj=>?_) (λj=>ae ⟨by omega,.inl i⟩)
 rw[aJ];exact ae ⟨by omega,.inl (by omega)⟩
theorem ir(e:l.length<=400){d:bD}(c:DI l d.L d.At)(a:Int)(g:1<=a)(f:a<=1000000):Ok (eO LC d a) λr=>DI l r.1 r.2.1/\0<=r.2.2/\r.2.2<a:=gh (lW e c a f) λr b=>⟨b.1,b.2.1,by have:=b.2.2;omega⟩
theorem p9(e:l.length<=400){d:bD}(b:DI l d.L d.At)(a:Int)(f:a<=1000000):Ok (mK LC d a) λr=>DI l r.1 r.2.1:=by
 unfold mK;exact aD (lW e b a f) λr c=>ae c.1
theorem iM(f:l.length<=400){d:bD}(e:DI l d.L d.At)(vs:List Int)(h:1<=vs.length)(i:vs.length<=1000):Ok (gQ LC d vs) λr=>DI l r.1 r.2.1/\r.2.2∈vs:=by
 unfold gQ;refine aD (ir f e (vs.length:Int) (by omega) (by omega)) λr a=>?_
 have c:vs[r.2.2.toNat]? =c7 (vs[r.2.2.toNat]'(by omega)):=c6 _;have b:vs[r.2.2.toNat]'(by omega)∈vs:=d4 _;generalize vs[r.2.2.toNat]'(by omega)=g at c b;rw[show aj vs r.2.2=c7 g by unfold aj;rw[if_pos a.2.1];exact c,aa];exact ae ⟨a.1,b⟩
theorem adN(u:l.length<=400)(k:Nat)(C:k<=7){t:List Int}{m:Int}(y:DI l t m):Ok (bO (λa:List Int×Int×List bP×List aZ×Int=>Bt LC (k:Int) (bD.mk a.1 a.2.1) (ak.mk a.2.2.1 a.2.2.2.1) a.2.2.2.2) (t,m,[],[],0)) λc=>DI l c.1 c.2.1/\c.2.2.1.length=k/\(∀p,p∈c.2.2.1->-100<=p.eU/\p.eU<=0)/\c.2.2.2=[]:=by
 refine di k (λi a=>a.2.2.2.2=(i:Int)/\DI l a.1 a.2.1/\a.2.2.1.length=i/\(∀p,p∈a.2.2.1->-100<=p.eU/\p.eU<=0)/\a.2.2.2.1=[]) _ (λi a B o=>?_) (λa o=>?_) _ ⟨rfl,y,rfl,(λp e=>by cases e),rfl⟩
 ·obtain⟨b,m,s,z,A⟩:=a;obtain⟨rfl,j,f,g,h⟩:=o;dsimp only at j f g h⊢;unfold Bt
  try dsimp only
  rw[aC];refine aD (Q:=λc:List Int×Int×List bP=>DI l c.1 c.2.1/\c.2.2.length=i+1/\∀p,p∈c.2.2->-100<=p.eU/\p.eU<=0) ?_ λc n=>?_
  ·refine aD (ir u j 4 (by decide) (by decide)) λr v=>?_
   have w:∀b:Bool,∀p,p∈s++[bP.mk (c3 c4 ((-10)*r.2.2)) b]->-100<=p.eU/\p.eU<=0:=λb p e=>by
    rcases d8.1 e with e |e
    ·exact g p e
    ·rw[d1] at e;rw[e,aJ];dsimp only;omega
   refine aV (λ_=>?_) (λ_=>?_)
   ·rw[dm (by decide) (by omega),aa];exact ae ⟨v.1,by simp[f],w _⟩
   ·refine aD (p9 u (d:=⟨r.1,r.2.1⟩) v.1 6 (by decide)) λq x=>?_
    rw[dm (by decide) (by omega),aa];exact ae ⟨x,by simp[f],w _⟩
  ·rw[aJ];exact ae ⟨rfl,n.1,n.2.1,n.2.2,h⟩
 ·obtain⟨b,m,s,z,A⟩:=a;obtain⟨rfl,j,f,g,h⟩:=o;dsimp only at j f g h⊢;unfold Bt
  try dsimp only
  rw[aG];exact ae ⟨j,f,g,h⟩
theorem Mv{c:Nat}{d:List aZ}{r:aZ}(e:∀r,r∈d->jx c r)(f:jx c r):∀b,b∈d++[r]->jx c b:=λb a=>by
 rcases d8.1 a with a |a
 ·exact e b a
 ·rw[d1] at a;rw[a];exact f
theorem adQ(m:l.length<=400)(n:Nat)(D:2<=n/\n<=7){q:List Int}{j:Int}{ps:List bP}(v:DI l q j):Ok (bO (λa:List Int×Int×List bP×List aZ×Int=>By LC (n:Int) (bD.mk a.1 a.2.1) (ak.mk a.2.2.1 a.2.2.2.1) a.2.2.2.2) (q,j,ps,[],1)) λh=>DI l h.1 h.2.1/\h.2.2.1=ps/\h.2.2.2.length=n -1/\∀r,r∈h.2.2.2->jx n r:=by
 refine di (n -1) (λi a=>a.2.2.2.2=((i+1:Nat):Int)/\DI l a.1 a.2.1/\a.2.2.1=ps/\a.2.2.2.1.length=i/\∀r,r∈a.2.2.2.1->jx n r) _ (λi a B k=>?_) (λa k=>?_) _ ⟨rfl,v,rfl,rfl,λp z=>by cases z⟩
 ·obtain⟨b,j,u,w,y⟩:=a;obtain⟨rfl,g,rfl,e,f⟩:=k;dsimp only at g e f⊢;unfold By
  try dsimp only
  rw[aC];refine aD (ir m g (min ((i+1:Nat):Int) 2) (by omega) (by omega)) λr x=>?_
  refine aD (iM m (d:=⟨r.1,r.2.1⟩) x.1 [11,59,119,4] (by decide) (by decide)) λc t=>?_
  refine aD (iM m (d:=⟨c.1,c.2.1⟩) t.1 [9,3,19] (by decide) (by decide)) λo s=>?_
  have C:4<=c.2.2/\c.2.2<=119:=by have:=t.2;simp at this;omega
  have A:3<=o.2.2/\o.2.2<=19:=by have:=s.2;simp at this;omega
  rw[dm (by decide) (by omega),aa,aJ (n:=((i+1:Nat):Int) -1) (by omega) (by omega),aJ (n:=((i+1:Nat):Int) -1 -r.2.2) (by omega) (by omega),aJ (n:=1+c.2.2),aJ (n:=1+o.2.2),aJ];refine ae ⟨by dsimp only;omega,s.1,rfl,by simp[e],Mv f ⟨?_,?_,?_,?_⟩⟩
  ·dsimp only;omega
  ·dsimp only;omega
  ·dsimp only;omega
  ·dsimp only;omega
 ·obtain⟨b,j,u,w,y⟩:=a;obtain⟨rfl,g,rfl,e,f⟩:=k;dsimp only at g e f⊢;unfold By
  try dsimp only
  rw[aG];exact ae ⟨g,rfl,e,f⟩
theorem Wc(e:l.length<=400)(n:Nat)(J:2<=n/\n<=7){t:List Int}{p:Int}{ps:List bP}{rs:List aZ}{j:Int}(B:DI l t p)(A:0<=j/\j<=1000)(o:1<=rs.length/\rs.length<=10)(D:∀r,r∈rs->jx n r):Ok (bO (λa:List Int×Int×List bP×List aZ×Int=>HR LC (n:Int) (bD.mk a.1 a.2.1) (ak.mk a.2.2.1 a.2.2.2.1) a.2.2.2.2) (t,p,ps,rs,j)) λc=>DI l c.1 c.2.1/\c.2.2.1=ps/\(1<=c.2.2.2.length/\c.2.2.2.length<=10)/\∀r,r∈c.2.2.2->jx n r:=by
 refine oa (λa=>(0<=a.2.2.2.2/\a.2.2.2.2<=j)/\DI l a.1 a.2.1/\a.2.2.1=ps/\(1<=a.2.2.2.1.length/\a.2.2.2.1.length<=10)/\∀r,r∈a.2.2.2.1->jx n r) (λa=>a.2.2.2.2.toNat) _ (λa y=>?_) _ ⟨⟨A.1,e0 _⟩,B,rfl,o,D⟩
 obtain⟨b,p,x,rs,i⟩:=a;obtain⟨h0,m,rfl,k,h⟩:=y;dsimp only at h0 m k h⊢;unfold HR
 try dsimp only
 have F:(bif c5 (0<i) then c7 (c5 ((rs.length:Int)<10)) else c7 false)=c7 (c5 (0<i/\(rs.length:Int)<10)):=fm rfl;refine c8 F ?_
 refine aV (λL=>?_) (λ_=>ae ⟨m,rfl,k,h⟩)
 refine aD (ir e m (n:Int) (by omega) (by omega)) λr o=>?_
 refine aD (ir e (d:=⟨r.1,r.2.1⟩) o.1 (n:Int) (by omega) (by omega)) λw C=>?_
 refine aD (iM e (d:=⟨w.1,w.2.1⟩) C.1 [11,59,199] (by decide) (by decide)) λf v=>?_
 refine aD (iM e (d:=⟨f.1,f.2.1⟩) v.1 [9,3] (by decide) (by decide)) λg u=>?_
 refine aD (ir e (d:=⟨g.1,g.2.1⟩) u.1 5 (by decide) (by decide)) λs z=>?_
 refine aD (p9 e (d:=⟨s.1,s.2.1⟩) z.1 6 (by decide)) λH E=>?_
 have I:11<=f.2.2/\f.2.2<=199:=by have:=v.2;simp at this;omega
 have G:3<=g.2.2/\g.2.2<=9:=by have:=u.2;simp at this;omega
 refine aD (Q:=λc:List bP×List aZ=>c.1=x/\(1<=c.2.length/\c.2.length<=10)/\∀r,r∈c.2->jx n r) ?_ λc q=>?_
 ·refine aV (λK=>?_) (λ_=>ae ⟨rfl,k,h⟩)
  rw[dm (by decide) (by omega),aa,aJ (n:=1+f.2.2),aJ (n:=1+g.2.2)];refine ae ⟨rfl,by simp;omega,Mv h ⟨?_,?_,?_,?_⟩⟩
  ·dsimp only;omega
  ·dsimp only;omega
  ·dsimp only;omega
  ·dsimp only;omega
 ·rw[aJ];exact ae ⟨⟨by dsimp only;omega,E,q.1,q.2⟩,by dsimp only;omega⟩
structure CJ (m:ak):Prop where
 ok:cP m
 np:2<=m.ai.length/\m.ai.length<=7
 nr:1<=m.af.length/\m.af.length<=10
theorem amM(e:l.length<=400)(u:DI l l 0):Ok (zN LC ⟨l,0⟩) λr=>DI l r.1 r.2.1/\CJ r.2.2:=by
 unfold zN;refine aD (ir e (d:=⟨l,0⟩) u 6 (by decide) (by decide)) λr v=>?_
 refine aD (Q:=λf:Int=>2<=f/\f<=7) ?_ λf w=>?_
 ·refine aV (λ_=>ae (by decide)) (λ_=>?_)
  rw[aJ];exact ae (by omega)
 obtain⟨b,rfl⟩:∃b:Nat,f=(b:Int):=⟨f.toNat,by omega⟩;refine aD (adN e b (by omega) v.1) λk h=>?_
 have o:k.2.2.2=[]:=h.2.2.2;rw[o];refine aD (adQ e b (by omega) (ps:=k.2.2.1) h.1) λg i=>?_
 refine aD (ir e (d:=⟨g.1,g.2.1⟩) i.1 4 (by decide) (by decide)) λx t=>?_
 refine aD (Wc e b (by omega) (ps:=g.2.2.1) (rs:=g.2.2.2) t.1 (by omega) (by have:=i.2.2.1;omega) i.2.2.2) λa c=>?_
 have m:a.2.2.1=k.2.2.1:=c.2.1.trans i.2.1;have s:a.2.2.1.length=b:=by rw[m];exact h.2.1
 refine ae ⟨c.1,⟨by show a.2.2.1.length<=64;omega,by show a.2.2.2.length<=128;have:=c.2.2.1;omega,λp j=>?_,λq n=>?_⟩,by show 2<=a.2.2.1.length/\a.2.2.1.length<=7;omega,c.2.2.1⟩
 ·have j:p∈a.2.2.1:=j;rw[m] at j;have:=h.2.2.1 p j;omega
 ·show jx a.2.2.1.length q
  rw[s];exact c.2.2.2 q n
theorem apv(w:l.length<=400)(h:Nat)(A:h<=64){d:bD}(v:DI l d.L d.At):Ok (A9 LC d (h:Int)) λr=>DI l r.1 r.2.1/\cj 0 ((h:Int) -1) r.2.2:=by
 unfold A9;refine aD (Q:=λe:List Int×Int×List Int=>DI l e.1 e.2.1/\cj 0 ((h:Int) -1) e.2.2) ?_ λe m=>ae m
 refine di h (λi c=>c.2.2.2=(i:Int)/\DI l c.1 c.2.1/\c.2.2.1.length<=i/\cj 0 ((i:Int) -1) c.2.2.1) _ (λi c z n=>?_) (λc n=>?_) _ ⟨rfl,v,ef _,cj.nil⟩
 ·obtain⟨b,t,a,y⟩:=c;obtain⟨rfl,g,o,f⟩:=n;dsimp only at g o f⊢;unfold HH
  try dsimp only
  rw[aC];refine aD (ir w (d:=⟨b,t⟩) g 3 (by decide) (by decide)) λr x=>?_
  refine aD (Q:=λe:List Int=>e.length<=i+1/\cj 0 (((i+1:Nat):Int) -1) e) ?_ λe m=>?_
  ·refine aV (λ_=>?_) (λ_=>ae ⟨by omega,λq j=>?_⟩)
   ·rw[dm (by decide) (by omega),aa];refine ae ⟨by simp;omega,λq j=>?_⟩
    simp only[ee,List.length_singleton] at j
    by_cases s:q<a.length
    ·have:=f q s;have p:(a++[(i:Int)]).getD q 0=a.getD q 0:=by rw[d0,d5 s,d0]
     have k:(a++[(i:Int)]).getD (q -1) 0=a.getD (q -1) 0:=by rw[d0,d5 (by omega),d0]
     rw[p,k];exact⟨this.1,by omega,this.2.2⟩
    ·have u:q=a.length:=by omega
     have p:(a++[(i:Int)]).getD q 0=(i:Int):=by rw[d0,u,e5 (ef _)];simp
     rw[p];refine⟨by omega,by omega,λB=>?_⟩
     have:=f (q -1) (by omega);have k:(a++[(i:Int)]).getD (q -1) 0=a.getD (q -1) 0:=by rw[d0,d5 (by omega),d0]
     rw[k];omega
   ·have:=f q j;exact⟨this.1,by omega,this.2.2⟩
  ·rw[aJ];exact ae ⟨rfl,x.1,m⟩
 ·obtain⟨b,t,a,y⟩:=c;obtain⟨rfl,g,o,f⟩:=n;dsimp only at g o f⊢;unfold HH
  try dsimp only
  rw[aG];exact ae ⟨g,f⟩
theorem als(i:l.length<=400){e:ak}(D:CJ e){d:bD}(B:DI l d.L d.At):Ok (BX LC d e) λr=>DI l r.1 r.2.1/\r.2.2.length<=3/\∀a,a∈r.2.2->lS e.ai.length a:=by
 have M:=D.np;unfold BX;refine aD (ir i B 4 (by decide) (by decide)) λr F=>?_
 refine aD (Q:=λf:List Int×Int×List aS=>DI l f.1 f.2.1/\f.2.2.length<=3/\∀a,a∈f.2.2->lS e.ai.length a) ?_ λf m=>ae m
 refine oa (λc=>(0<=c.2.2.2/\c.2.2.2+(c.2.2.1.length:Int)<=3)/\DI l c.1 c.2.1/\∀a,a∈c.2.2.1->lS e.ai.length a) (λc=>c.2.2.2.toNat) _ (λc z=>?_) _ ⟨(by simp;omega),F.1,(λa s=>by cases s)⟩
 obtain⟨b,I,C,G⟩:=c;obtain⟨h0,o,q⟩:=z;dsimp only at h0 o q⊢;unfold R2
 try dsimp only
 refine aV (λK=>?_) (λ_=>ae ⟨o,by dsimp only;omega,q⟩)
 refine aD (apv i e.ai.length (by omega) (d:=⟨b,I⟩) o) λt x=>?_
 refine aD (iM i (d:=⟨t.1,t.2.1⟩) x.1 [9,29,4] (by decide) (by decide)) λj w=>?_
 refine aD (ir i (d:=⟨j.1,j.2.1⟩) w.1 3 (by decide) (by decide)) λv A=>?_
 refine aD (iM i (d:=⟨v.1,v.2.1⟩) A.1 [0,1,5] (by decide) (by decide)) λk p=>?_
 have J:4<=j.2.2/\j.2.2<=29:=by have:=w.2;simp at this;omega
 have O:0<=k.2.2/\k.2.2<=5:=by have:=p.2;simp at this;omega
 rw[aJ (n:=1+j.2.2)];refine aD (Q:=λf:xe=>∃g a,f=JB g a/\DI l g.L g.At/\lS e.ai.length a) ?_ λf m=>?_
 ·refine aV (λ_=>?_) (λN=>ae ⟨_,_,rfl,p.1,⟨by dsimp only;omega,x.2,by dsimp only;omega,by dsimp only;omega,by dsimp only;omega⟩⟩)
  refine aD (ir i (d:=⟨k.1,k.2.1⟩) p.1 (e.ai.length:Int) (by omega) (by omega)) λL u=>ae ⟨_,_,rfl,u.1,⟨by simp,cj.one u.2.1 (by omega),by dsimp only;omega,by dsimp only;omega,by dsimp only;omega⟩⟩
 ·obtain⟨g,a,rfl,H,s⟩:=m;show Ok ((bj 48 C [a]).bind λE=>c7 (d7 (g.L,g.At,E,c3 c4 (G -1)))) _
  rw[dm (by decide) (by omega),aa,aJ];refine ae ⟨⟨by simp;omega,H,λy h=>?_⟩,by dsimp only;omega⟩
  rcases d8.1 h with h |h
  ·exact q y h
  ·rw[d1] at h;rw[h];exact s
theorem afs(s:l.length<=400){m:ak}(B:CJ m){d:bD}(A:DI l d.L d.At):Ok (Cq LC d m) λr=>DI l r.1 r.2.1/\r.2.2.length=m.af.length/\∀a,a∈r.2.2->ke a:=by
 have E:=B.nr;unfold Cq;refine aD (Q:=λf:List Int×Int×List bI=>DI l f.1 f.2.1/\f.2.2.length=m.af.length/\∀a,a∈f.2.2->ke a) ?_ λf t=>ae t
 refine di m.af.length (λi e=>e.2.2.2=(i:Int)/\DI l e.1 e.2.1/\e.2.2.1.length=i/\∀a,a∈e.2.2.1->ke a) _ (λi e G u=>?_) (λe u=>?_) _ ⟨rfl,A,rfl,λa c=>by cases c⟩
 ·obtain⟨b,z,y,D⟩:=e;obtain⟨rfl,p,j,o⟩:=u;dsimp only at p j o⊢;unfold JQ
  try dsimp only
  rw[aC];refine aD (iM s (d:=⟨b,z⟩) p [0,1000,5000,20000,(-5000),(-20000),4999,100] (by decide) (by decide)) λg x=>?_
  refine aD (iM s (d:=⟨g.1,g.2.1⟩) x.1 [0,1,1000,6000] (by decide) (by decide)) λk w=>?_
  refine aD (iM s (d:=⟨k.1,k.2.1⟩) w.1 [0,1,500] (by decide) (by decide)) λh v=>?_
  have J: -20000<=g.2.2/\g.2.2<=20000:=by have:=x.2;simp at this;omega
  have F:0<=k.2.2/\k.2.2<=6000:=by have:=w.2;simp at this;omega
  have H:0<=h.2.2/\h.2.2<=500:=by have:=v.2;simp at this;omega
  rw[aJ (n:=g.2.2 -k.2.2),aJ (n:=g.2.2+h.2.2),dm (by decide) (by omega),aa];refine aD (p9 s (d:=⟨h.1,h.2.1⟩) v.1 9 (by decide)) λI C=>?_
  have c:∀a,a∈y++[bI.mk (g.2.2 -k.2.2) (g.2.2+h.2.2)]->ke a:=λa c=>by
   rcases d8.1 c with c |c
   ·exact o a c
   ·rw[d1] at c;rw[c];unfold ke;dsimp only;omega
  refine aD (Q:=λf:List bI=>f.length=i+1/\∀a,a∈f->ke a) ?_ λf t=>?_
  ·refine dy (λ_=>?_) (λ_=>ae ⟨by simp[j],c⟩)
   rw[jF ⟨0,0⟩ (by omega) (by simp;omega),aa,get_at ⟨0,0⟩ (by omega) (by simp;omega),aa];refine ae ⟨by simp[j],λa q=>?_⟩
   rcases ec q with q |q
   ·exact c a q
   ·rw[q];unfold ke;dsimp only;omega
  ·rw[aJ];exact ae ⟨rfl,C,t⟩
 ·obtain⟨b,z,y,D⟩:=e;obtain⟨rfl,p,j,o⟩:=u;dsimp only at p j o⊢;unfold JQ
  try dsimp only
  rw[aG];exact ae ⟨p,j,o⟩
end
theorem JL{d b g a:Int}{l:List Int}(f:cj d b l)(o:b<a)(k:a<=g)(m:d<=a):cj d g (l++[a]):=λq j=>by
 simp only[ee,List.length_singleton] at j
 by_cases h:q<l.length
 ·have:=f q h;have e:(l++[a]).getD q 0=l.getD q 0:=by rw[d0,d5 h,d0]
  have c:(l++[a]).getD (q -1) 0=l.getD (q -1) 0:=by rw[d0,d5 (by omega),d0]
  rw[e,c];exact⟨this.1,by omega,this.2.2⟩
 ·have i:q=l.length:=by omega
  have e:(l++[a]).getD q 0=a:=by rw[d0,i,e5 (ef _)];simp
  rw[e];refine⟨m,k,λn=>?_⟩
  have:=f (q -1) (by omega);have c:(l++[a]).getD (q -1) 0=l.getD (q -1) 0:=by rw[d0,d5 (by omega),d0]
  rw[c];omega
theorem cj.up{a b c d:Int}{e:List Int}(h:cj a b e)(l:c<=a)(k:b<=d):cj c d e:=λi j=>by
 have:=h i j;exact⟨by omega,by omega,this.2.2⟩
theorem PF:∀{a:List Int},a.Pairwise (·<=·)->dQ a=a
 |[],_=>rfl
 |b::a,d=>by
  obtain⟨f,e⟩:=List.pairwise_cons.1 d;show mM b (dQ a)=b::a
  rw[PF e];cases a with
  |nil=>rfl
  |cons c a=>
   show(bif c5 (b<=c) then b::c::a else c::mM b a)=_
   rw[aC (f c (by simp))]
theorem cj.pw{a b:Int}{c:List Int}(h:cj a b c):c.Pairwise (·<=·):=by
 refine List.pairwise_iff_getElem.2 λi k j d e=>?_
 have:=h.lt e d;rw[pu (c6 j),pu (c6 d)] at this;omega
theorem cj.bo{a:List Int}(h:cj 1 65535 a):lz a:=by
 unfold lz;rw[PF h.pw];exact h
theorem has_eq{l:List Int}{x:Int}(h:Fit l):xb LC l x=c7 (c5 (x∈l)):=by
 have r:l.length<=4611686018427387904:=h;have q:=Bb (l:=l) (x:=x) h;have j:Ok (bO (λf=>DG LC l x f) 0) λg=>(g= .inl ()/\x∈l)\/(g= .inr ()/\x∉l):=by
  refine di l.length (λi f=>f=(i:Int)/\∀d,d<i->l[d]? ≠c7 x) _ (λi f c b=>?_) (λf b=>?_) _ ⟨rfl,λd p=>by omega⟩
  ·obtain⟨rfl,b⟩:=b;unfold DG;rw[aC,bn,c6 c,aa];refine aV (λa=>ae (.inl ⟨rfl,by rw[<-a];exact d4 c⟩)) (λa=>?_)
   rw[aJ];refine ae ⟨rfl,λd p e=>?_⟩
   by_cases k:d=i
   ·subst k;rw[c6 c] at e;injection e with e
    exact a e
   ·exact b d (by omega) e
  ·obtain⟨rfl,b⟩:=b;unfold DG;rw[aG];refine ae (.inr ⟨rfl,λn=>?_⟩)
   obtain⟨i,c,rfl⟩:=e4.1 n;exact b i c (c6 c)
 unfold xb;obtain⟨g,o,m⟩:=j;refine(dL o).trans ?_
 rcases m with⟨rfl,a⟩ |⟨rfl,a⟩
 ·rw[decide_eq_true a];rfl
 ·rw[decide_eq_false a];rfl
theorem N1(a:bI)(c b:Int):Ok (xG LC a c b) λ_=>True:=by
 unfold xG;exact aV (λ_=>aV (λ_=>ae trivial) (λ_=>ae trivial)) (λ_=>ae trivial)
theorem ajL{a:ak}(g:cP a):Ok (EI LC a) λ_=>True:=by
 have k:=g.1;have j:=g.2.1;unfold EI;refine aD (Q:=λ_=>True) (aV (λ_=>ae trivial) (λ_=>ae trivial)) λb _=>?_
 refine dy (λ_=>ae trivial) (λ_=>?_)
 refine aD (Q:=λ_=>True) ?_ λf _=>?_
 ·refine di a.ai.length (λi c=>c=(i:Int)) _ (λi c e d=>?_) (λc d=>?_) _ rfl
  ·subst d;unfold IS;rw[aC,bn,c6 e,aa];refine aD (Q:=λ_=>True) (aV (λ_=>ae trivial) (λ_=>ae trivial)) λb _=>?_
   refine dy (λ_=>ae trivial) (λ_=>?_)
   rw[aJ];exact ae (by dsimp only;omega)
  ·subst d;unfold IS;rw[aG];exact ae trivial
 ·cases f with
  |inl _=>exact ae trivial
  |inr _=>
   show Ok ((bO _ _).bind _) _
   refine aD (Q:=λ_=>True) ?_ λf _=>by cases f <;> exact ae trivial
   refine di a.af.length (λi c=>c=(i:Int)) _ (λi c e d=>?_) (λc d=>?_) _ rfl
   ·subst d;unfold KX;rw[aC,bn,c6 e,aa];have tr:∀{p:Prop} [Decidable p] {a:Option Bool},Ok a (λ_=>True)->Ok (bif decide p then c7 true else a) λ_=>True:=λ{p} _ {a} h=>aV (λ_=>ae trivial) (λ_=>h)
    refine aD (Q:=λ_=>True) (tr (tr (tr (tr (ae trivial))))) λb _=>?_
    refine dy (λ_=>ae trivial) (λ_=>?_)
    refine aD (Q:=λ_=>True) (tr (tr (tr (tr (aD (N1 _ _ _) λb _=>dy (λ_=>ae trivial) λ_=>aD (N1 _ _ _) λb _=>ae trivial))))) λb _=>?_
    refine dy (λ_=>ae trivial) (λ_=>?_)
    rw[aJ];exact ae (by dsimp only;omega)
   ·subst d;unfold KX;rw[aG];exact ae trivial
theorem Lx{a:ak}(f:cP a){i:Nat}(h:i<a.af.length)(b:Bool):Ok (wm LC a (i:Int) b) λ_=>True:=by
 have m:=f.2.1;have e:=c6 h;have g:=d4 h;generalize a.af[i]=r at e g;have q:=(f.2.2.2 r g).1;unfold wm Gv;refine aD (Q:=λ_=>True) ?_ λ_ _=>ae trivial
 refine aD (Q:=λ_=>True) ?_ λo _=>?_
 ·refine aD (ajL f) λp _=>?_
  refine aV (λ_=>ae trivial) (λ_=>aV (λ_=>ae trivial) (λ_=>aV (λ_=>ae trivial) (λ_=>?_)))
  rw[bn,e,aa,aa];exact dy (λ_=>ae trivial) (λ_=>ae trivial)
 ·refine dy (λ_=>ae trivial) (λ_=>?_)
  rw[bn,e,aa];obtain⟨c,j,d⟩:∃c:Int×Int,Da LC r b=c7 c/\(0<=c.1/\c.1<(a.ai.length:Int))/\0<=c.2/\c.2<(a.ai.length:Int):=by
   unfold Da;cases b
   ·exact⟨_,rfl,by dsimp only;omega,by dsimp only;omega⟩
   ·exact⟨_,rfl,by dsimp only;omega,by dsimp only;omega⟩
  rw[j,aa,jF ⟨0,false⟩ d.2.1 d.2.2,aa,jF ⟨0,false⟩ d.1.1 d.1.2,aa];refine aD (Q:=λr:Int=>r≠0) (aV (λ_=>ae (by decide)) (λ_=>ae (by decide))) λs l=>?_
  refine aD (Q:=λr:Int=>r≠0) (aV (λ_=>ae (by decide)) (λ_=>ae l)) λn k=>?_
  rw[Ek k,aa];exact ae trivial
theorem Yh{a:ak}(g:cP a){ar:List Int}(l:Fit ar):Ok (Dt LC a ar) λr=>r.length<=a.af.length/\cj 0 ((a.af.length:Int) -1) r:=by
 have p:=g.2.1;unfold Dt;refine aD (Q:=λr:List Int=>r.length<=a.af.length/\cj 0 ((a.af.length:Int) -1) r) ?_ λe j=>ae j
 refine di a.af.length (λi c=>c.2=(i:Int)/\c.1.length<=i/\cj 0 ((i:Int) -1) c.1) _ (λi c h k=>?_) (λc k=>?_) _ ⟨rfl,ef _,cj.nil⟩
 ·obtain⟨m,o⟩:=c;obtain⟨rfl,f,d⟩:=k;dsimp only at f d⊢;unfold Hh;rw[aC,bn,c6 h,aa];refine aD (Q:=λ_=>True) ?_ λb _=>?_
  ·refine aD (Lx g h false) λn _=>?_
   exact aV (λ_=>ae trivial) (λ_=>aD (Lx g h true) λn _=>ae trivial)
  refine aD (Q:=λ_=>True) ?_ λb _=>?_
  ·refine dy (λ_=>dy (λ_=>?_) (λ_=>ae trivial)) (λ_=>ae trivial)
   rw[has_eq l,aa,has_eq l,aa];exact ae trivial
  refine aD (Q:=λe:List Int=>e.length<=i+1/\cj 0 (((i+1:Nat):Int) -1) e) ?_ λe j=>?_
  ·refine dy (λ_=>?_) (λ_=>ae ⟨by omega,d.up (e0 _) (by omega)⟩)
   rw[dm (by decide) (by omega),aa];exact ae ⟨by simp;omega,JL d (by omega) (by omega) (by omega)⟩
  ·rw[aJ];exact ae ⟨rfl,j⟩
 ·obtain⟨m,o⟩:=c;obtain⟨rfl,f,d⟩:=k;dsimp only at f d⊢;unfold Hh;rw[aG];exact ae ⟨f,d⟩
structure yJ (s:gM):Prop where
 fN:CJ s.ao
 rd:s.aQ.length<=3/\∀x,x∈s.aQ->lS s.ao.ai.length x
 pl:(1<=s.ai.length/\s.ai.length<=3)/\∀x,x∈s.ai->0<=x/\x<(s.ao.ai.length:Int)
 tg:s.aw.length=s.ai.length/\lz s.aw
 fl:s.cI.length=s.ao.af.length/\∀x,x∈s.cI->ke x
 es:lH s.ao s.bR/\s.bR.dg=[]/\s.bR.dG=[]/\s.bR.Safe.length<=1
 bl:rR s.bM/\s.bM.bT.length<=2/\∀x,s.bM.bT[s.bM.bT.length -1]? =c7 x->x<(s.ao.ai.length:Int)
 br:(1<=s.gZ.length/\s.gZ.length<=10)/\cj 0 ((s.ao.af.length:Int) -1) s.gZ
section
variable {l : List Int}
theorem alo(g:l.length<=400):Ok (zy LC ⟨l,0⟩) λr=>DI l r.1 r.2.1/\yJ r.2.2:=by
 unfold zy;refine aD (amM g DI.init) λab C=>?_
 obtain⟨al,V,m⟩:=ab;obtain⟨C,u⟩:=C;dsimp only at C u⊢;have az:=u.np;have ap:=u.nr;refine aD (als g (d:=⟨al,V⟩) u C) λt S=>?_
 refine aD (ir g (d:=⟨t.1,t.2.1⟩) S.1 3 (by decide) (by decide)) λx ak=>?_
 rw[aJ (n:=1+x.2.2)];refine aD (Q:=λh=>∃e f a c,h=(e,f,m.ai,m.af,t.2.2,a,c,([]:List bI),([]:List Int),([]:List Int),([]:List Int),([]:List Int),([]:List Int))/\DI l e f/\((1<=a.length/\a.length<=3)/\∀j,j∈a->0<=j/\j<(m.ai.length:Int))/\c.length=a.length/\cj 1 65535 c) ?_ λav aj=>?_
 ·obtain⟨n,Z⟩:∃n:Nat,1+x.2.2=(n:Int):=⟨(1+x.2.2).toNat,by omega⟩;rw[Z];refine di n (λi E=>∃e f a c,E=(e,f,m.ai,m.af,t.2.2,([]:List bI),([]:List Int),([]:List Int),([]:List Int),([]:List Int),([]:List Int),a,c,((n:Int) -i))/\DI l e f/\(a.length=i/\∀j,j∈a->0<=j/\j<(m.ai.length:Int))/\c.length=a.length/\cj 1 (30 -7*((n:Int) -i+1)) c) _ (λi E aq D=>?_) (λE D=>?_) _ ⟨x.1,x.2.1,[],[],by simp,ak.1,⟨rfl,(λj o=>by cases o)⟩,rfl,cj.nil⟩
  ·obtain⟨e,f,a,c,rfl,w,z,B,A⟩:=D;unfold F8;dsimp only;rw[aC];refine aD (ir g (d:=⟨e,f⟩) w (m.ai.length:Int) (by omega) (by omega)) λr k=>?_
   rw[dm (by decide) (by omega),aa,aJ (n:=7*((n:Int) -i)) (by omega) (by omega),aJ (n:=30 -7*((n:Int) -i)) (by omega) (by omega),dm (by decide) (by omega),aa,aJ];refine ae ⟨r.1,r.2.1,a++[r.2.2],c++[30 -7*((n:Int) -i)],?_,k.1,⟨by simp;omega,λj o=>?_⟩,by simp[B],JL A (by omega) (by omega) (by omega)⟩
   ·rw[show(n:Int) -i -1=(n:Int) - ((i+1:Nat):Int) by omega]
   ·rcases d8.1 o with o |o
    ·exact z.2 j o
    ·rw[d1] at o;rw[o];exact k.2
  ·obtain⟨e,f,a,c,rfl,w,z,B,A⟩:=D;unfold F8;dsimp only;rw[aG];exact ae ⟨e,f,a,c,rfl,w,⟨by omega,z.2⟩,B,A.up (e0 _) (by omega)⟩
 obtain⟨e,f,a,c,rfl,w,z,B,A⟩:=aj;dsimp only;refine aD (afs g (m:=⟨m.ai,m.af⟩) (d:=⟨e,f⟩) u w) λv O=>?_
 refine aD (iM g (d:=⟨v.1,v.2.1⟩) O.1 [600,100,2000] (by decide) (by decide)) λs I=>?_
 have aB:100<=s.2.2/\s.2.2<=2000:=by have:=I.2;simp at this;omega
 refine aD (p9 g (d:=⟨s.1,s.2.1⟩) I.1 3 (by decide)) λR L=>?_
 refine aD (Q:=λh=>∃e f safe,h=(e,f,m.ai,m.af,t.2.2,a,c,v.2.2,safe,([]:List Int),([]:List Int),s.2.2,([]:List Int),([]:List Int))/\DI l e f/\cj 0 ((m.ai.length:Int) -1) safe/\safe.length<=1) ?_ λay X=>?_
 ·refine dy (λ_=>?_) (λ_=>ae ⟨_,_,[],rfl,L,cj.nil,by simp⟩)
  exact aD (ir g (d:=⟨R.1,R.2.1⟩) L (m.ai.length:Int) (by omega) (by omega)) λr k=>ae ⟨_,_,[r.2.2],rfl,k.1,cj.one k.2.1 (by omega),by simp⟩
 obtain⟨ai,Y,safe,rfl,ac,an,W⟩:=X;dsimp only;refine aD (iM g (d:=⟨ai,Y⟩) ac [299,4] (by decide) (by decide)) λp J=>?_
 have au:4<=p.2.2/\p.2.2<=299:=by have:=J.2;simp at this;omega
 refine aD (iM g (d:=⟨p.1,p.2.1⟩) J.1 [99,1799] (by decide) (by decide)) λq F=>?_
 have aw:99<=q.2.2/\q.2.2<=1799:=by have:=F.2;simp at this;omega
 rw[aJ (n:=(m.ai.length:Int) -2),aJ (n:=(m.ai.length:Int) -1),aJ (n:=1+p.2.2),aJ (n:=1+q.2.2)];refine aD (Q:=λh:List Int×Int×Bool=>DI l h.1 h.2.1/\(h.2.2=true->2<(m.ai.length:Int))) ?_ λP G=>?_
 ·refine aV (λaf=>?_) (λ_=>ae ⟨F.1,λy=>by cases y⟩)
  exact aD (p9 g (d:=⟨q.1,q.2.1⟩) F.1 3 (by decide)) λr k=>ae ⟨k,λ_=>af⟩
 refine aD (Q:=λh:DN=>∃ar,h=zl ⟨m,t.2.2,a,c,v.2.2,⟨safe,[],[],s.2.2⟩,⟨ar,1+p.2.2,1+q.2.2⟩,[]⟩/\ar.length≠0/\ar.length<=2/\cj 0 ((m.ai.length:Int) -1) ar) ?_ λax ao=>?_
 ·refine dy (λy=>ae ⟨_,rfl,by simp,by simp,?_⟩) (λ_=>ae ⟨_,rfl,by simp,by simp,cj.one (by omega) (by omega)⟩)
  have:=G.2 y;exact JL (l:=[(m.ai.length:Int) -2]) (b:=(m.ai.length:Int) -2) (cj.one (by omega) (by omega)) (by omega) (by omega) (by omega)
 obtain⟨ar,rfl,ad,ag,M⟩:=ao;rw[show Nr (zl ⟨m,t.2.2,a,c,v.2.2,⟨safe,[],[],s.2.2⟩,⟨ar,1+p.2.2,1+q.2.2⟩,[]⟩)=⟨m,t.2.2,a,c,v.2.2,⟨safe,[],[],s.2.2⟩,⟨ar,1+p.2.2,1+q.2.2⟩,[]⟩ from rfl];dsimp only;refine aD (Yh u.ok (ar:=ar) (by show ar.length<=_;omega)) λK ah=>?_
 have fin:∀(b:List Int),(1<=b.length/\b.length<=10)->cj 0 ((m.af.length:Int) -1) b->yJ ⟨m,t.2.2,a,c,v.2.2,⟨safe,[],[],s.2.2⟩,⟨ar,1+p.2.2,1+q.2.2⟩,b⟩:=λb T U=>by
  refine⟨u,S.2,z,⟨B,A.bo⟩,O.2,⟨⟨u.ok,an,cj.nil,cj.nil,?_,?_⟩,rfl,rfl,W⟩,⟨⟨ad,M.up (by decide) (by omega),⟨?_,?_⟩,?_,?_⟩,ag,λj o=>?_⟩,T,U⟩
  ·dsimp only;omega
  ·dsimp only;omega
  ·dsimp only;omega
  ·dsimp only;omega
  ·dsimp only;omega
  ·dsimp only;omega
  ·have:=M.mem (fC o);show j<(m.ai.length:Int)
   omega
 refine aD (Q:=λh:List Int×Int×Bool=>DI l h.1 h.2.1/\(h.2.2=false->1<=K.length)) ?_ λN H=>?_
 ·refine aV (λ_=>ae ⟨G.1,λy=>by cases y⟩) (λaA=>?_)
  exact aD (p9 g (d:=⟨P.1,P.2.1⟩) G.1 8 (by decide)) λr k=>ae ⟨k,λ_=>by omega⟩
 refine dy (λ_=>?_) (λam=>ae ⟨H.1,fin K ⟨H.2 am,by omega⟩ ah.2⟩)
 exact aD (ir g (d:=⟨N.1,N.2.1⟩) H.1 (m.af.length:Int) (by omega) (by omega)) λr k=>ae ⟨k.1,fin [r.2.2] (by simp) (cj.one k.2.1 (by omega))⟩
end
theorem ajS{c:List Int}{a:ak}(d:cj 0 ((a.af.length:Int) -1) c)(g:a.af.length<=1000)(i:c.length<=1000):zi LC c a=c7 false:=by
 unfold zi;have e:Ak LC c a=c7 (gg (λb=>!c5 (0<=b/\b<=(a.af.length:Int) -1)) c):=by
  unfold Ak;refine fF (P:=λb=>zm LC b a) (by omega) (λb _=>?_) λh=>rfl
  unfold zm;rw[aJ,cF,aa]
 rw[e,aa,gm]
 congr 1
 rw[List.any_eq_false];intro b f;have:=d.mem f;simp[this.1,this.2]
structure Lr (m:ak) (bo ps:List Int) (b:aL):Prop where
 ex:∃wh,b=⟨[⟨bo,wh⟩]⟩/\wh.length=ps.length/\∀(i:Nat) x p,wh[i]? =c7 x->ps[i]? =c7 p->x.Time=0/\jK m x/\fn x.an p<=0
theorem adm{f:ak}{e d:List Int}(u:cP f)(I:e.length=d.length)(J:1<=d.length/\d.length<=3)(E:lz e)(F:∀a,a∈d->0<=a/\a<(f.ai.length:Int)):Ok (Bk LC f e d 0) λq=>q.2=0/\Lr f e d q.1:=by
 unfold Bk;rw[ko,aa,decide_eq_true u,d9,cond_false,aG,cF,aa,decide_eq_true (by omega),d9,aa,cond_false,O6 (cX (n:=3) (by omega) (by decide)),aa,decide_eq_true E,d9,cond_false,bV (cX (n:=3) (by omega) (by decide)),aa];refine aD (Q:=λv=>∃b,v=dT (e,b)/\b.length=d.length/\∀(i:Nat) a p,b[i]? =c7 a->d[i]? =c7 p->a.Time=0/\jK f a/\fn a.an p<=0) ?_ λv y=>?_
 ·refine di d.length (λi m=>∃b,m=(e,b,(i:Int))/\b.length=i/\∀(i:Nat) a p,b[i]? =c7 a->d[i]? =c7 p->a.Time=0/\jK f a/\fn a.an p<=0) _ (λi m s k=>?_) (λm k=>?_) _ ⟨[],rfl,rfl,λi a p c=>by simp at c⟩
  ·obtain⟨b,rfl,g,j⟩:=k;unfold HP;dsimp only;have r:=c6 s;have w:=d4 s;generalize d[i]=p at r w;rw[aC,bn,r,aa];refine aD (aaW u (F p w) (t:=0) (by decide)) λq x=>?_
   obtain⟨G,H,B,D⟩:=x;rw[aG (by rw[G];simp),dm (by decide) (by omega),aa,aJ];refine ae ⟨b++[q.1],rfl,by simp[g],λo a z c h=>?_⟩
   by_cases C:o<b.length
   ·rw[d5 C] at c;exact j o a z c h
   ·have A:o=i:=by
     have:=(ea.1 c).1;simp at this;omega
    subst A;rw[e5 (by omega),g,Nat.sub_self] at c;have c:c7 q.1=c7 a:=c;injection c with c
    rw[r] at h;injection h with h
    subst c;subst h;exact⟨H,B,D⟩
  ·obtain⟨b,rfl,g,j⟩:=k;unfold HP;dsimp only;rw[aG];exact ae ⟨b,rfl,g,j⟩
 ·obtain⟨b,rfl,g,j⟩:=y;exact ae ⟨rfl,⟨b,rfl,g,j⟩⟩
theorem anj:Ok (DL LC) λa=>Sm a.dl/\Sm a.dr:=by
 unfold DL;rw[show(32:Int)=((32:Nat):Int) from rfl,Oa (by decide),aa,nS (by decide) (by decide),aa];exact ae ⟨by show(dd 32 (-1:Int)).length<=_;rw[dv];decide,by show(dd _ (0:Int)).length<=_;rw[dv];decide⟩
structure vD (s:gM) (p:aE):Prop where
 ex:∃x b bs,p=⟨xj s.ao s.aQ s.ai s.aw 0,s.ao,s.cI,s.bR,s.bM,dd s.aQ.length (aT.mk 0 0 0 []),[],x,b,⟨0,[]⟩,⟨s.gZ,bs,false⟩,⟨0,0,0,0⟩,⟨[]⟩,[],[]⟩/\(Sm x.dl/\Sm x.dr)/\Lr s.ao s.aw s.ai b/\bs=dd s.gZ.length 0
theorem vD.mD{s:gM}(c:yJ s){p:aE}(h:vD s p):dW s.ai.length s.ao.ai.length p:=by
 obtain⟨x,b,J,rfl,A,B,rfl⟩:=h.ex;obtain⟨wh,rfl,H,G⟩:=B.ex;have u:=c.fN.ok;have E:=c.pl.1;have d:=c.rd;have t:=c.fN.nr;have F:=c.fN.np;have o:=c.br;refine {n3:=E,kN:=?_,fN:=rfl,gq:=u,gk:=rfl,iz:=by show(s.ai.map _).length=_;rw[d3],jR:=d.1,kj:=by show(s.aQ.map _).length=_;rw[d3];rfl,uD:=c.fl.1,kI:=?_,qx:=cX c.bl.2.1 (by decide),kn:=by show(dd _ _).length=_;rw[dv];rfl,rX:=?_,uB:=by show(0:Nat)<=60;decide,rW:=(λr d=>by cases d),int:=A,hZ:=?_,bne:=by simp,je:=.nil,pq:=.inl rfl,key:=?_,jY:=o.2,iI:=⟨by simp,(λa C=>by cases C),List.Pairwise.nil⟩,log:=by show(0:Nat)<=200;decide,uC:=(λh I=>by cases I)}
 ·refine⟨cX (n:=7) F.2 (by decide),cX (n:=10) t.2 (by decide),?_,cX (n:=3) (by show s.aw.length<=3;have:=c.tg.1;omega) (by decide),cX (n:=3) d.1 (by decide),λr k=>?_,?_,?_,?_,λl w=>?_⟩
  ·show(s.ai.map _).length<=1000000;rw[d3];omega
  ·have:=(d.2 r k).2.1.len (by omega);show r.ai.length<=1000000
   omega
  ·show(s.aQ.map _).length<=1000000;rw[d3];omega
  ·show(s.aQ.map _).length<=1000000;rw[d3];omega
  ·show(s.aQ.map _).length<=1000000;rw[d3];omega
  ·obtain⟨r,_,rfl⟩:=List.mem_map.1 w;show(dd _ _).length<=1000000;rw[dv];omega
 ·have e:=c.es;refine⟨⟨?_,?_,?_⟩,?_,?_,?_⟩
  ·show s.bR.Safe.length<=4611686018427387904;omega
  ·show s.bR.dg.length<=4611686018427387904;rw[e.2.1];simp
  ·show s.bR.dG.length<=4611686018427387904;rw[e.2.2.1];simp
  ·show s.bR.Safe.length<=1000000;omega
  ·show s.bR.dg.length<=1000000;rw[e.2.1];simp
  ·show s.bR.dG.length<=1000000;rw[e.2.2.1];simp
 ·intro r k;rw[List.eq_of_mem_replicate k];simp
 ·refine⟨by simp,λK m=>?_⟩
  rw[d1] at m;subst m;refine⟨⟨H,λx D=>?_⟩,c.tg.1⟩
  obtain⟨i,j,rfl⟩:=e4.1 D;exact(G i _ _ (c6 j) (c6 (show i<s.ai.length by have j:i<wh.length:=j;omega))).2.1.1.1
 ·refine⟨⟨by show(1:Int)<=(s.gZ.length:Int)/\(s.gZ.length:Int)<=12;omega,o.2.up (e0 _) (by omega)⟩,by show(dd _ _).length=_;rw[dv],λn y=>?_,λh=>by cases h⟩
  rw[List.eq_of_mem_replicate y]
  decide
theorem amU{a:gM}(c:yJ a):Ok (wX LC a.ao a.aQ a.ai a.aw a.cI a.bR a.bM a.gZ) λr=>r.2=0/\vD a r.1:=by
 have e:=c.fN.ok;have h:=c.pl;have y:=c.rd;have G:=c.fN.nr;have I:=c.fN.np;have g:=c.br;have j:=c.bl;unfold wX;rw[start_eq ⟨e,by omega,y.2⟩ c.tg.1 (by omega) h.2 c.tg.2 (by decide),aa,aG (by simp)];obtain⟨q,F,d⟩:=aqw a.ao a.cI [] 0 (by decide) (by show _<=4611686018427387904;omega);rw[F,aa];have z:q.2=0:=by
  rcases d with d |d
  ·exact d.1
  ·exact absurd ⟨⟨e,c.fl.1,c.fl.2⟩,cj.nil,by decide,by decide⟩ d.2
 have H:a.bM.bT.length≠0:=j.1.1;have i:a.bM.bT[a.bM.bT.length -1]? =c7 (a.bM.bT[a.bM.bT.length -1]'(by omega)):=c6 _;generalize a.bM.bT[a.bM.bT.length -1]'(by omega)=t at i;have f:=c.es;have D:lO a.bR:=⟨by show a.bR.Safe.length<=4611686018427387904;omega,by show a.bR.dg.length<=4611686018427387904;rw[f.2.1];simp,by show a.bR.dG.length<=4611686018427387904;rw[f.2.2.1];simp⟩;have B:(bif c5 (q.2≠0) then c7 true else(rP LC a.ao a.bR).bind λu=>bif (!u) then c7 true else(oT LC a.bM (b7.mk 0 0 0 0)).bind λA=>bif (!A) then c7 true else(aj a.bM.bT (c3 c4 ((a.bM.bT.length:Int) -1))).bind λw=>c7 (c5 ((a.ao.ai.length:Int)<=w)):Option Bool)=c7 false:=by
  rw[aG (by rw[z];simp),Jc D,aa,decide_eq_true f.1,d9,cond_false,AH (by show a.bM.bT.length<=_;omega),aa,decide_eq_true ⟨j.1,Xp⟩,d9,cond_false,aJ,show((a.bM.bT.length:Int) -1)=((a.bM.bT.length -1:Nat):Int) by omega,bn,i,aa,decide_eq_false (by have:=j.2.2 t i;omega)]
 refine c8 B ?_
 rw[cond_false,ajS g.2 (by omega) (by omega),aa,cond_false];have x:uJ a.gZ:=⟨by omega,g.2.up (e0 _) (by omega)⟩;have p:AQ LC a.gZ=c7 (⟨a.gZ,dd a.gZ.length 0,false⟩,0):=by
  unfold AQ;rw[Nq (by show _<=4611686018427387904;omega),aa,decide_eq_true x,d9,cond_false,bV (cX (n:=10) g.1.2 (by decide)),aa,nS (by omega) (by omega),aa,d6]
 rw[p,aa,aG (by simp)];obtain⟨b,s,E,v⟩:=adm e c.tg.1 h.1 c.tg.2 h.2;rw[s,aa,aG (by rw[E];simp),nS (by omega) (by omega),aa,d6];obtain⟨m,o,C⟩:=anj;rw[o,aa];have k:vD a ⟨xj a.ao a.aQ a.ai a.aw 0,a.ao,a.cI,a.bR,a.bM,dd a.aQ.length (aT.mk 0 0 0 []),[],m,b.1,⟨0,[]⟩,⟨a.gZ,dd a.gZ.length 0,false⟩,⟨0,0,0,0⟩,⟨[]⟩,[],[]⟩:=⟨m,b.1,_,rfl,C,v,rfl⟩;rw[abi (k.mD c).lC,aa];exact ae ⟨rfl,k⟩
theorem Vr{a:gM}(c:yJ a):Ok (Cw LC a) λr=>r.2=true/\vD a r.1:=by
 unfold Cw;exact aD (amU c) λr b=>ae ⟨decide_eq_true b.1,b.2⟩
def k9(b:Nat)(a:bH):Prop:=a.Kind=3->0<=a.A/\a.A<max 1 (b:Int)
section
variable {l : List Int}
theorem anp(e:l.length<=400){d:bD}(p:DI l d.L d.At){p1 p2 p3 p5:Int}{nr:Nat}(B:p1<=1000)(C:p2<=1000)(y:p3<=1000)(z:nr<=1000)(A:p5<=1000):Ok (Di LC d p1 p2 p3 (max 1 (nr:Int)) p5) λr=>DI l r.1 r.2.1/\k9 nr r.2.2:=by
 unfold Di;refine aD (iM e p [1,1,2,2,3,4,3,4,5,6,7,8,9,10,11,12,13,7] (by decide) (by decide)) λa f=>?_
 refine aD (Q:=λi:vL=>∃g q,i=rB g q/\DI l g.L g.At/\k9 nr q) ?_ λi n=>by
  obtain⟨g,q,rfl,x,v⟩:=n;exact ae ⟨x,v⟩
 have no:∀{t b u s:Int},s≠3->k9 nr ⟨s,t,b,u⟩:=λ{t b u s} h p=>absurd p h
 refine aV (λh=>?_) (λ_=>?_)
 ·exact aD (iM e (d:=⟨a.1,a.2.1⟩) f.1 [1,5,10,30,100,0,300] (by decide) (by decide)) λr c=>ae ⟨_,_,rfl,c.1,no (by omega)⟩
 refine aV (λh=>?_) (λ_=>?_)
 ·refine aD (lW e (d:=⟨a.1,a.2.1⟩) f.1 p1 (by omega)) λr c=>?_
  refine aD (lW e (d:=⟨r.1,r.2.1⟩) c.1 p2 (by omega)) λk m=>?_
  exact aD (iM e (d:=⟨k.1,k.2.1⟩) m.1 [0,0,5,60] (by decide) (by decide)) λw o=>ae ⟨_,_,rfl,o.1,no (by omega)⟩
 refine aV (λh=>?_) (λj=>?_)
 ·refine aD (ir e (d:=⟨a.1,a.2.1⟩) f.1 (max 1 (nr:Int)) (by omega) (by omega)) λr c=>?_
  refine aD (iM e (d:=⟨r.1,r.2.1⟩) c.1 [0,0,1,2,3] (by decide) (by decide)) λk m=>?_
  exact aD (iM e (d:=⟨k.1,k.2.1⟩) m.1 [0,0,1,(-1),3] (by decide) (by decide)) λw o=>ae ⟨_,_,rfl,o.1,λ_=>c.2⟩
 refine aV (λh=>?_) (λ_=>?_)
 ·exact aD (lW e (d:=⟨a.1,a.2.1⟩) f.1 _ (by omega)) λr c=>ae ⟨_,_,rfl,c.1,no (by omega)⟩
 refine aV (λh=>?_) (λ_=>?_)
 ·refine aD (lW e (d:=⟨a.1,a.2.1⟩) f.1 p1 (by omega)) λr c=>?_
  exact aD (lW e (d:=⟨r.1,r.2.1⟩) c.1 p1 (by omega)) λk m=>ae ⟨_,_,rfl,m.1,no (by omega)⟩
 refine aD (Q:=λi:List Int×Int×Int×Int×Int=>DI l i.1 i.2.1/\i.2.2.1≠3) ?_ λi n=>ae ⟨_,_,rfl,n.1,no n.2⟩
 refine aV (λh=>?_) (λ_=>?_)
 ·exact aD (lW e (d:=⟨a.1,a.2.1⟩) f.1 p3 (by omega)) λr c=>ae ⟨c.1,j⟩
 refine aV (λh=>?_) (λ_=>?_)
 ·exact aD (lW e (d:=⟨a.1,a.2.1⟩) f.1 p5 (by omega)) λr c=>ae ⟨c.1,j⟩
 refine aD (Q:=λ_=>True) (aV (λ_=>ae trivial) (λ_=>ae trivial)) λb _=>?_
 refine dy (λ_=>?_) (λ_=>?_)
 ·exact aD (lW e (d:=⟨a.1,a.2.1⟩) f.1 2 (by decide)) λr c=>ae ⟨c.1,j⟩
 refine aV (λh=>?_) (λ_=>?_)
 ·refine aD (lW e (d:=⟨a.1,a.2.1⟩) f.1 4 (by decide)) λr c=>?_
  rw[Ek (by decide),aa];exact ae ⟨c.1,j⟩
 refine aD (Q:=λ_=>True) (aV (λ_=>ae trivial) (λ_=>ae trivial)) λb _=>?_
 refine dy (λ_=>?_) (λ_=>ae ⟨f.1,j⟩)
 exact aD (lW e (d:=⟨a.1,a.2.1⟩) f.1 p2 (by omega)) λr c=>ae ⟨c.1,j⟩
theorem vx{c:Nat}{d b:List bH}(e:∀a,a∈d->k9 c a)(g:∀a,a∈b->k9 c a):∀a,a∈d++b->k9 c a:=λa f=>(d8.1 f).elim (e a) (g a)
theorem aqk(h:l.length<=400){d:bD}(f:DI l d.L d.At){L C:Nat}{p:aE}(k:dW L C p)(u:Int)(J:1<=u)(X:u<=1000):Ok (EJ LC d p u) λr=>DI l r.1 r.2.1/\r.2.2.length<=100/\∀b,b∈r.2.2->k9 p.au.aQ.length b:=by
 have Y:=k.key.1.1;have W:=k.iz;have N:=k.n3;have V:=k.gq.1;have R:=k.gq.2.1;have S:=k.jR;unfold EJ;refine aD (ir h f u J (by omega)) λD B=>?_
 rw[aJ];refine aD (Q:=λa:List Int×Int×List bH=>DI l a.1 a.2.1/\a.2.2.length<=100/\∀b,b∈a.2.2->k9 p.au.aQ.length b) ?_ λa g=>ae g
 refine oa (λc=>(0<=c.2.2.2/\c.2.2.2<=5+D.2.2)/\DI l c.1 c.2.1/\c.2.2.1.length<=100/\∀b,b∈c.2.2.1->k9 p.au.aQ.length b) (λc=>c.2.2.2.toNat) _ (λc n=>?_) _ ⟨⟨(by dsimp only;omega),e0 _⟩,B.1,by simp,(λb e=>by cases e)⟩
 obtain⟨G,I,s,i⟩:=c;obtain⟨h0,v,z,o⟩:=n;dsimp only at h0 v z o⊢;unfold T2;dsimp only;have K:(bif c5 (0<i) then c7 (c5 ((s.length:Int)<60)) else c7 false)=c7 (c5 (0<i/\(s.length:Int)<60)):=fm rfl;refine c8 K ?_
 refine aV (λZ=>?_) (λ_=>ae ⟨v,z,o⟩)
 refine aD (Q:=λa:List Int×Int×List bH=>DI l a.1 a.2.1/\a.2.2.length<=100/\∀b,b∈a.2.2->k9 p.au.aQ.length b) ?_ λa g=>by
  rw[aJ];exact ae ⟨⟨by dsimp only;omega,g⟩,by dsimp only;omega⟩
 refine aD (p9 h (d:=⟨G,I⟩) v 12 (by decide)) λr y=>?_
 refine dy (λ_=>?_) (λ_=>?_)
 ·refine aD (Q:=λa:List bH=>a.length<=s.length+12/\∀b,b∈a->k9 p.au.aQ.length b) ?_ λa g=>?_
  ·refine di p.Keys.af.length (λi c=>c.2=(i:Int)/\c.1.length=s.length+i/\∀b,b∈c.1->k9 p.au.aQ.length b) _ (λi c P n=>?_) (λc n=>?_) _ ⟨rfl,rfl,o⟩
   ·obtain⟨M,q⟩:=c;obtain⟨rfl,w,m⟩:=n;dsimp only at w m⊢;unfold II;rw[aC,dm (by decide) (by omega),aa,aJ];refine ae ⟨rfl,by simp;omega,vx m λb e=>?_⟩
    rw[d1] at e;subst e;exact λf=>absurd f (show ¬(7:Int)=3 by decide)
   ·obtain⟨M,q⟩:=c;obtain⟨rfl,w,m⟩:=n;dsimp only at w m⊢;unfold II;rw[aG];exact ae ⟨by omega,m⟩
  ·rw[pN (by simp;omega),aa];refine ae ⟨y,by simp;omega,vx g.2 λb e=>?_⟩
   simp at e;rcases e with rfl |rfl |rfl |rfl <;> exact λf=>absurd f (by decide)
 ·refine aD (Q:=λa:List Int×Int×Bool=>DI l a.1 a.2.1/\(a.2.2=true->0<p.au.aQ.length)) (aD (p9 h (d:=⟨r.1,r.2.1⟩) y 3 (by decide)) λO A=>dy (λ_=>ae ⟨A,λf=>by have:=of_decide_eq_true f;omega⟩) (λ_=>ae ⟨A,λf=>by cases f⟩)) λa g=>?_
  refine dy (λF=>?_) (λ_=>?_)
  ·have T:=g.2 F;refine aD (ir h (d:=⟨a.1,a.2.1⟩) g.1 (p.au.aQ.length:Int) (by omega) (by omega)) λt j=>?_
   refine aD (iM h (d:=⟨t.1,t.2.1⟩) j.1 [0,0,1] (by decide) (by decide)) λx E=>?_
   refine aD (iM h (d:=⟨x.1,x.2.1⟩) E.1 [1,5,10,20] (by decide) (by decide)) λU H=>?_
   rw[pN (by simp;omega),aa];refine ae ⟨H.1,by simp;omega,vx o λb e=>?_⟩
   simp at e;rcases e with rfl |rfl |rfl
   ·exact λ_=>⟨j.2.1,by have:=j.2.2;show t.2.2<_;omega⟩
   ·exact λf=>absurd f (show ¬(4:Int)=3 by decide)
   ·exact λf=>absurd f (show ¬(1:Int)=3 by decide)
  ·refine aD (anp h (d:=⟨a.1,a.2.1⟩) g.1 (p1:=(p.au.aN.length:Int)) (p2:=(p.ao.af.length:Int)) (p3:=(p.ao.ai.length:Int)) (nr:=p.au.aQ.length) (p5:=max 1 (p.Keys.af.length:Int)) (by omega) (by omega) (by omega) (by omega) (by omega)) λt j=>?_
   rw[dm (by decide) (by omega),aa];refine ae ⟨j.1,by simp;omega,vx o λb e=>?_⟩
   rw[d1] at e;rw[e];exact j.2
end
theorem gC.Gm{p j:aE}{e:bH}(h:gC p e j):j.au.aQ=p.au.aQ:=by
 cases h with
 |xZ _ _ _ _ _ c=>obtain⟨b,s,fl,sm,m,rfl,_⟩:=c.ex;rfl
 |xY _ _ _ _ _ _ _ _ _ c=>obtain⟨b,s,fl,sm,m,rfl,_⟩:=c.ex;rfl
 |look k rd F r _ _ c=>obtain⟨row,G,D,a,l,C,y,B,n,E,H,t,u,d⟩:=c.ex;rw[d]
 |swap x b s w o _ _ _ _ _ _ _ _ d A n=>rw[d]
 |_=>rfl
theorem oA.Gm{p a:aE}{e:bH}{c:Int}(h:oA p e a c):a.au.aQ=p.au.aQ:=by
 cases h with
 |no c _=>rfl
 |bad al nm c _ _ _ _ _=>rfl
 |zI q nm d _ _ _=>exact d.Gm
noncomputable def L2:Lp:=⟨λf c=>match fY f 2000 c with |some b=>c7 b |none=>bO f c,λf c b a=>by
 cases d:fY f 2000 c with
 |some e=>rw[d] at a;exact⟨2000,d.trans a⟩
 |none=>rw[d] at a;exact zR a⟩
theorem ah0:L2=LC:=by
 unfold L2 LC
 congr 1
 funext α β f a
 cases b:fY f 2000 a with
 |some c=>exact(Cd b).symm
 |none=>rfl
theorem ZE:vn L2=c7 true:=by kernel_rfl
theorem WQ:vn LC=c7 true:=ah0▸ZE
theorem ajy(a:List Int):I1 LC a=c7 (c5 ((a.length:Int)<=400)):=rfl
structure Km (n:Nat) (p:aE) (q:aE):Prop where
 kI:q.bR=p.bR
 iI:q.bS=p.bS
 time:q.au.Time=p.au.Time
 iz:q.au.aN.length=p.au.aN.length
 fN:cP q.ao
 aqL:q.ao.ai.length=p.ao.ai.length
 aqM:lH q.ao {p.bR with dg:=filled p.bz (p.au.Time+600)}
 pq:q.bz.an=[]↔p.bz.an=[]
 qE:∀k:Nat,k<n->∀x,x∈ld q.bw (k:Int) p.au.Time->(∃a,a∈q.bS/\fX a 2 x)\/od q.ao {p.bR with dg:=filled p.bz (p.au.Time+600)} x=true
theorem ag6{b:aL}{a d c e:Int}(f:e∈ld b a d)(o:d<=c):e∈ld b a c:=by
 obtain⟨h0,m,g,j,h,i,k,l,n⟩:=RJ.1 f;exact RJ.2 ⟨h0,m,g,j,h,i,k,l,by omega⟩
theorem gC.aoJ{n np:Nat}{p q:aE}{e:bH}(h:dW n np p)(K:e.Kind=12)(A:gC p e q):Km n p q:=by
 have l:=A.mD h;cases A with
 |xY _ al z _ M C _ _ _ I=>
  obtain⟨b,s,fl,sm,R,rfl,T,d,P,Q,S,G⟩:=I.ex;obtain⟨j,N,E⟩:=C.ex;have J:j=b:=by
   have d:kW LC (cY p.ao e.A) p.bw p.au.Time=c7 (b,0):=d;rw[N] at d;injection d with d
   injection d
  subst J;have F:=uF p.ao e.A;refine⟨rfl,rfl,rfl,by show(p.au.aN.map _).length=_;rw[d3],l.gq,rfl,?_,?_,λk K x L=>?_⟩
  ·obtain⟨_,c,a,B,H⟩:=C.kI;refine⟨l.gq,c,a,?_,H⟩
   show cj 0 (((cY p.ao e.A).af.length:Int) -1) p.bR.dG
   rw[F];exact B
  ·have U:=h.gk;rcases G with⟨c,a⟩ |⟨c,a⟩
   ·show sm.an=[]↔p.bz.an=[]
    have a:sm=p.bz:=a;rw[a]
   ·have c:p.bz.an≠[]:=c;have a:sm.an.length=p.ao.ai.length:=a;show sm.an=[]↔p.bz.an=[]
    refine⟨λo=>?_,λo=>absurd o c⟩
    rw[o] at a;have B:p.ao.ai.length=0:=a.symm;rcases h.pq with y |y
    ·exact y
    ·exact dk.1 (by omega)
  ·have O:fM n np j:=l.hZ;have t:j.aA≠[]:=l.bne;have D:j.aA[0]? =c7 (j.aA[0]'(dt.2 t)):=c6 _;have w:=d4 (dt.2 t);generalize j.aA[0]'(dt.2 t)=u at D w;have V:=(O.mX u w).1.1;rcases E u D k (by omega) x (ag6 L (by show p.au.Time<=p.au.Time+600;omega)) with m |m
   ·exact .inl (M x m)
   ·exact .inr m
 |wait h0 |walk _ h0 |look _ _ _ _ h0 |JE _ _ _ _ _ _ _ _ _ h0 |swap _ _ _ _ _ h0 |JD _ _ h0 |guard _ h0 |shut _ _ h0 |xZ _ h0 |JF _ _ h0=>omega
 |xX _ h0=>omega
instance (b:cy) (a c:Int):Decidable (fX b a c):=by unfold fX;infer_instance
theorem Wp{p:aE}{s:List Int}{i:Nat}{j:Int}(v:s[i]? =c7 j)(w:p.bS.length<=64)(z:Int):Ok (bO (λe:Bool×Int=>DX LC (p,z) s (i:Int) e.1 e.2) (false,0)) λb=>b=true↔∃a,a∈p.bS/\fX a 2 j:=by
 refine di p.bS.length (λg e=>e.2=(g:Int)/\(e.1=true↔∃(d:Nat) (a:cy),d<g/\p.bS[d]? =c7 a/\fX a 2 j)) _ (λg e u n=>?_) (λe n=>?_) _ ⟨rfl,⟨(λl=>by cases l),λ⟨d,a,l,_⟩=>by omega⟩⟩
 ·obtain⟨b,q⟩:=e;obtain⟨rfl,h⟩:=n;dsimp only at h⊢;unfold DX;have m:=c6 u;generalize p.bS[g]=a at m;rw[aC (by dsimp only;omega),bn,m,bn,v];simp only[aa];rw[aJ];have t:(bif b then c7 true else bif c5 (a.Kind=2) then c7 (c5 (a.eB=j)) else c7 false)=c7 (b||c5 (fX a 2 j)):=by
   cases b
   ·rw[cond_false,Bool.false_or];exact fm rfl
   ·rfl
  refine c8 t ?_
  refine ae ⟨rfl,?_⟩
  dsimp only;rw[Bool.or_eq_true,h,decide_eq_true_iff]
  constructor
  ·rintro(⟨d,r,o,c,f⟩ |l)
   ·exact⟨d,r,by omega,c,f⟩
   ·exact⟨g,a,by omega,m,l⟩
  ·rintro⟨d,r,o,c,f⟩
   by_cases k:d=g
   ·subst k;rw[m] at c;injection c with c
    subst c;exact .inr f
   ·exact .inl ⟨d,r,by omega,c,f⟩
 ·obtain⟨b,q⟩:=e;obtain⟨rfl,h⟩:=n;dsimp only at h⊢;unfold DX;rw[aG (by dsimp only;omega)];refine ae ?_
  show b=true↔_
  rw[h]
  constructor
  ·rintro⟨d,a,_,c,f⟩;exact⟨a,fC c,f⟩
  ·rintro⟨a,o,c⟩;obtain⟨d,k,rfl⟩:=e4.1 o;exact⟨d,_,k,c6 k,c⟩
theorem V2{j:ak}{k:bE}{p:Int}{r:List Int×List Int×ju}{l h:List cS}{f:cm}(c:xU j k p r l h f){e b:Int}(i:r.1[0]? =c7 e)(a:r.2.1[0]? =c7 b):e≠b:=by
 rw[c.r1] at i;rw[c.r2] at a;intro m;subst m;rw[List.getElem?_map] at a;cases d:h[0]? with
 |none=>rw[d] at a;cases a
 |some g=>
  rw[d] at a;have a:c7 g.gX=c7 e:=a;injection a with a
  exact c.dis g (fC d) (by rw[a];exact fC i)
theorem aec{n D:Nat}{g q:aE}{nm:List dK}{z:Int}(l:dW n D g)(o:dW n D q)(E:Km n g q){j:Nat}(X:j<n):Ok (bO (λh=>AX LC (ld q.bw (j:Int) g.au.Time) ({q with bB:=nm},z) (filled g.bz (g.au.Time+600)) h) 0) λT=>T= .inr ():=by
 have ad:=LS q.bw (j:Int) g.au.Time;generalize P:ld q.bw (j:Int) g.au.Time=H at ad;have J:lO {g.bR with dg:=filled g.bz (g.au.Time+600)}:=by
  have ag:(filled g.bz (g.au.Time+600)).length<=64:=by
   have w:(filled g.bz (g.au.Time+600)).length<=g.bz.an.length:=pQ;have x:=l.mq;have ah:g.bz.an.length<=64:=by
    rcases l.pq with G |G
    ·rw[G];simp
    ·omega
   omega
  exact⟨l.kI.1.s,by show(filled g.bz (g.au.Time+600)).length<=4611686018427387904;omega,l.kI.1.h⟩
 have ak:=o.gq.1;have ai:=o.gq.2.1;refine di H.length (λi h=>h=(i:Int)) _ (λi h C u=>?_) (λh u=>?_) _ rfl
 ·subst u;unfold AX;have y:=c6 C;have K:=d4 C;generalize H[i]=k at y K;rw[aC,bn,y,aa];obtain⟨a,F,_,L⟩:=S9 (m:=q.ao) (e:={g.bR with dg:=filled g.bz (g.au.Time+600)}) (p:=k) J (by show _<=4611686018427387904;omega);have V:Be LC q.ao {q.bR with dg:=filled g.bz (g.au.Time+600)} k=c7 (a.1,a.2.1,a.2.2.2):=by
   rw[E.kI,adw,F,aa]
  refine c8 V ?_
  obtain⟨b,N,Q⟩:=Wp (p:={q with bB:=nm}) y o.iI.1 z;refine c8 N ?_
  dsimp only;have c:=E.qE j X k (by rw[P];exact K);have R:a.2.2.2=true\/b=true:=by
   rcases c with c |c
   ·exact .inr (Q.2 c)
   ·refine .inl ?_
    obtain⟨v,M,O⟩:=L1 (m:=q.ao) (e:={g.bR with dg:=filled g.bz (g.au.Time+600)}) (p:=k) J (by show _<=4611686018427387904;omega) (by omega);have U:v=true:=by unfold od at c;rw[M] at c;exact c
    obtain⟨r,ab,Y,f,af,d,_⟩:=O U;rw[F] at d;injection d with d
    rw[d]
  have d:(bif (!a.2.2.2) then bif (!b) then c7 true else bif a.2.2.2 then bif c5 (0<((a.1).length:Int)) then bif c5 (0<((a.2.1).length:Int)) then(aj a.1 0).bind λB=>(aj a.2.1 0).bind λt=>c7 (c5 (B=t)) else c7 false else c7 false else c7 false
   else bif a.2.2.2 then bif c5 (0<((a.1).length:Int)) then bif c5 (0<((a.2.1).length:Int)) then(aj a.1 0).bind λB=>(aj a.2.1 0).bind λt=>c7 (c5 (B=t)) else c7 false else c7 false else c7 false:Option Bool)=c7 false:=by
   cases I:a.2.2.2 with
   |false=>
    have ac:b=true:=R.resolve_left (by rw[I];simp);rw[ac]
    rfl
   |true=>
    simp only[d9,cond_false,cond_true]
    by_cases w:0<(a.1.length:Int)
    ·rw[aC w]
     by_cases x:0<(a.2.1.length:Int)
     ·rw[aC x];have A:a.1[0]? =c7 (a.1[0]'(by omega)):=c6 _;have s:a.2.1[0]? =c7 (a.2.1[0]'(by omega)):=c6 _;generalize a.1[0]'(by omega)=W at A;generalize a.2.1[0]'(by omega)=v at s;obtain⟨ab,Y,f,S⟩:=L I;have Z:=V2 S A s;rw[show aj a.1 0=c7 W from A,aa,show aj a.2.1 0=c7 v from s,aa,decide_eq_false Z]
     ·rw[aG x]
    ·rw[aG w]
  refine c8 d ?_
  rw[cond_false,aJ];exact ae (by dsimp only;omega)
 ·subst u;unfold AX;rw[aG];exact ae rfl
theorem akE{c f:Nat}{g q:aE}{nm:List dK}{z:Int}(l:dW c f g)(b:dW c f q)(e:Km c g q):Ok (bO (λa=>Eo LC ({q with bB:=nm},z) (filled g.bz (g.au.Time+600)) a) 0) λh=>h= .inr ():=by
 have n:=b.iz;have o:=b.n3;refine di c (λi a=>a=(i:Int)) _ (λi a j d=>?_) (λa d=>?_) _ rfl
 ·subst d;unfold Eo;dsimp only;rw[aC,QC b.lC.be,aa,e.time];obtain⟨h,m,k⟩:=aec (nm:=nm) (z:=z) l b e j;refine c8 m ?_
  rw[k];show Ok (c7 (d7 (c3 c4 ((i:Int)+1))):Option (Int⊕(Unit⊕Unit))) _
  rw[aJ];exact ae (by dsimp only;omega)
 ·subst d;unfold Eo;dsimp only;rw[aG];exact ae rfl
theorem aeZ(u:List Int):HT LC u=c7 true:=by
 unfold HT;rw[ajy,aa,WQ]
 by_cases K:(u.length:Int)<=400
 rotate_left
 ·rw[decide_eq_false K];rfl
 rw[decide_eq_true K,d9,cond_false];have B:u.length<=400:=by omega
 refine Ok.val ?_
 refine c8 (a:=u) rfl ?_
 refine aD (alo B) λs l=>?_
 refine aD (Vr l.2) λS ab=>?_
 obtain⟨p,ok⟩:=S;obtain⟨L,F⟩:=ab;dsimp only at L F⊢;rw[L,d9,cond_false];have o:=F.mD l.2;have ah:=l.2.fN.np;have ac:=o.gk;generalize s.2.2.ai.length=O at o;generalize ap:s.2.2.ao.ai.length=G at o ac ah;refine aD (ir B (d:=⟨s.1,s.2.1⟩) l.1 (p.ao.ai.length:Int) (by omega) (by omega)) λr Z=>?_
 refine aD (aqk B (d:=⟨r.1,r.2.1⟩) Z.1 o 25 (by decide) (by decide)) λT D=>?_
 rw[pN (by simp;have:=D.2.1;omega),aa];generalize N:[bH.mk 6 r.2.2 0 0]++T.2.2=h;have aq:h.length<=101:=by rw[<-N];simp;have:=D.2.1;omega
 have ag:∀c,c∈h->k9 p.au.aQ.length c:=by
  rw[<-N];refine vx (λc H=>?_) D.2.2
  rw[d1] at H;subst H;exact λn=>absurd n (show ¬(6:Int)=3 by decide)
 refine aD (Q:=λj=>j= .inr ()) ?_ λj m=>by rw[m];exact ae rfl
 refine di h.length (λi A=>∃g,A=u16 g (i:Int)/\dW O G g/\g.au.aQ=p.au.aQ) _ (λi A E w=>?_) (λA w=>?_) _ ⟨p,rfl,o,rfl⟩
 ·obtain⟨g,rfl,k,x⟩:=w;show Ok (yD LC h g (i:Int)) _
  unfold yD;have C:=c6 E;have P:=d4 E;generalize h[i]=c at C P;rw[aC,bn,C,d6,C];simp only[aa];have al:J6 g c:=by have:=ag c P;unfold J6;rw[x];exact this
  obtain⟨f,X,t⟩:=Wq k al;rw[X];simp only[aa];have J:=t.mD k;have I:=t.Gm;have ad:(bif c5 (c.Kind≠12) then c7 true else bif c5 (f.2≠0) then c7 true else c7 (c5 ((g.bz.an.length:Int)=0)))=c7 (c5 (c.Kind≠12\/f.2≠0\/(g.bz.an.length:Int)=0)):=ew (ew rfl);have fin:∀(y:Option (qc⊕Unit)),y=c7 (.inl (lR f.1))->Ok (y.bind λak=>Sum.elim (λai=>let Y:=tT ai;c7 (d7 (u16 Y (c3 c4 ((i:Int)+1))))) (λau=>c7 (dT (d7 ()))) ak) λj:pJ⊕(Unit⊕Unit)=>match j with
   | .inl R=>∃g,R=u16 g ((i+1:Nat):Int)/\dW O G g/\g.au.aQ=p.au.aQ
   | .inr b=>b= .inr ():=λy W=>by
   rw[W,aa];show Ok (c7 (d7 (u16 f.1 (c3 c4 ((i:Int)+1))))) _
   rw[aJ];exact ae ⟨f.1,rfl,J,I.trans x⟩
  refine gh (fin _ ?_) λj m=>by cases j <;> exact m
  refine(dL ad).trans ?_
  by_cases e:c.Kind≠12\/f.2≠0\/(g.bz.an.length:Int)=0
  ·rw[aC e]
  ·rw[aG e];have af:c.Kind=12:=ei.1 λn=>e (.inl n)
   have v:f.2=0:=ei.1 λn=>e (.inr (.inl n))
   obtain⟨ar,an⟩:=f;dsimp only at t J I v⊢;cases t with
   |no aj e=>subst v;rcases e with e |e <;> cases e
   |bad am nm aj l=>exact absurd v l
   |zI q nm M _ _ U=>
    have ao:0<=g.au.Time/\g.au.Time<=2147483648:=U.2.2.2.2.1;rw[aJ,Oo k.lC.sm,aa];obtain⟨j,V,m⟩:=akE (nm:=g.bB++[⟨c,g.au.Time,0,nm⟩]) (z:=0) k (M.mD k) (M.aoJ k af);refine(dL V).trans ?_
    rw[m]
    rfl
 ·obtain⟨g,rfl,k,x⟩:=w;show Ok (yD LC h g (h.length:Int)) _
  unfold yD;rw[aG];exact ae rfl
end Go.X.T
namespace Go.X.T
open Go Go.Aml Go.Bml Go.X Go.Proofs Go.ChangeShapes Go.WideShapes Go.RowKit Go.ChangeAt
theorem Ve:G8 Tryz.prog (IZ LC) [22]:=λl h0=>by
 obtain⟨h,g,c,rfl,f⟩:=ajJ h0;obtain rfl:=adH f;obtain⟨b,rfl,j,i⟩:=aeB (e:=3) (k:=.i64) (by kernel_rfl) (by kernel_rfl) (by kernel_rfl) (by kernel_rfl) c;refine⟨b,true,aeZ b,rfl,λa=>?_,rfl⟩
 have d:dP Tryz.prog 22=c7 false:=by kernel_rfl
 rw[d]
 match a with
 |0=>rfl
 |a+1=>rfl
end Go.X.T
namespace Go.Proofs.YtfljhldgncdifaaGreat
open Go Go.Aml Go.Bml Go.X Go.X.T Go.ChangeShapes Go.WideShapes Go.ChangeAt Go.RowKit
theorem Wd:joinedFacts Tryz.pinned.checked.prog 3 Tryz.f3 Rows.topSmokeWaysSpec Rows.topSmokeWaysRow=true:=by
 unfold joinedFacts;rw[ja,jb,jc,jd]
 kernel_rfl
theorem lifted(os:Os)(started:os.Started)(H:Type)(enc:TypeId×Value->H):
 ReturnsInHanded {} Tryz.checked os 3 .any (Rows.topSmokeWaysSpec.pre6 enc Tryz.prog Tryz.f3 Rows.topSmokeWaysRow.domain false) (Rows.topSmokeWaysSpec.post enc Tryz.prog Tryz.f3 false true false false):=
 ahF (C:=Tryz.checked) (c:=IZ LC) (tb:=4) (by kernel_rfl) started (by kernel_rfl) Tryz.func3
  (ChangeSpec.witness6 (enc:=enc) (C:=Tryz.checked) false ⟨#[],#[.slice none 0 0],[]⟩ 8 (by kernel_rfl) (by kernel_rfl) (by kernel_rfl) (by kernel_rfl))
  (by kernel_rfl) (by kernel_rfl) (by kernel_rfl) rfl rfl Tryz.underlying4 (λds hl=>by
   match ds,hl with
   |[_],_=>rfl) rfl (anD LC) Ve
theorem topSmokeWays_holds:Rows.TopSmokeWaysSaid:=
 OpenClaim.holds_of_wide 3 Tryz.f3 rfl rfl rfl rfl rfl rfl rfl ⟨rfl,rfl,rfl,rfl,rfl⟩ rfl rfl rfl rfl rfl (by kernel_rfl) Tryz.func3 Wd
  (of_decide_eq_true (by kernel_rfl)) (by unfold Func.isWrapper;first |(rw[if_pos (by decide+kernel)];kernel_rfl) |(rw[if_neg (by decide+kernel)];exact⟨rfl,rfl⟩))
  (λos started H enc _=>lifted os started H enc)
#print axioms topSmokeWays_holds
end Go.Proofs.YtfljhldgncdifaaGreat
