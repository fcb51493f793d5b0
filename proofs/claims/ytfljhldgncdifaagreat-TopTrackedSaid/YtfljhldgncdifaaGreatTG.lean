/- TopTracked: for every input the law returns true, and each argument reads as it did. Without conditions. -/
import Derived.Test.YtfljhldgncdifaaGreatTF
import Derived.Test.YtfljhldgncdifaaGreatTJ7a
import Derived.Test.YtfljhldgncdifaaGreatTJ7b
import Derived.Test.YtfljhldgncdifaaGreatTJ7c
import Derived.Test.YtfljhldgncdifaaGreatTJ7d
import Derived.Test.YtfljhldgncdifaaGreatTA
import Derived.Test.YtfljhldgncdifaaGreatTB
import Derived.Test.YtfljhldgncdifaaGreatTC
import Derived.Test.YtfljhldgncdifaaGreatTD
import Derived.Test.YtfljhldgncdifaaGreatTE
import Derived.Test.YtfljhldgncdifaaGreatRows
import Derived.WalkKit
import Derived.ProofKit
import Derived.OpenShut
import Derived.Below
import Derived.JoinedOf
set_option linter.defProp false
set_option linter.unusedSimpArgs false
set_option maxRecDepth 100000
set_option linter.unusedVariables false
open Go.IntKind renaming wrap → c3, i64 → c4, wrap_i64 → hM, u8 → hQ
open Decidable renaming decide → c5
open List renaming getElem?_eq_getElem → c6, getD_eq_getElem?_getD → dd, mem_iff_getElem → dv, getElem_mem → dT, length_set → e0, mem_singleton → e4, length_map → e5, getElem?_append_left → e6, length_append → ea, mem_append → ec, replicate → ee, getElem?_map → ef, getElem?_set_ne → ei, getElem?_set_self → eo, getElem?_eq_some_iff → ev, mem_or_eq_of_mem_set → ez, length_drop → eH, getElem?_append_right → fe, length_replicate → ft, getElem?_set → gb, length_eq_zero_iff → gx, getElem?_eq_none → h5, mem_of_mem_drop → h6, take_length → hq, drop_append_of_le_length → hz, length_pos_iff → hB, pairwise_iff_getElem → hI, append_assoc → hK, eq_of_mem_replicate → hL, take_of_length_le → hP, nil_append → hS, length_singleton → hU, mem_cons_of_mem → hX, mem_cons_self → ih, any_eq_true → j5, length → j6, mem_map → j8
open Option renaming some → c7, none → hD
open Int renaming le_refl → dk, toNat_natCast → dt, eq_ofNat_of_zero_le → eE, fdiv_eq_ediv_of_nonneg → h7, le_trans → j2, tmod_eq_of_lt → j3
open Bool renaming not_true → ej
open Sum renaming inl → ey, inr → gv, elim → j7, elim_inr → k0
open Nat renaming le_refl → ga, not_lt_zero → gy, le_trans → h8, add_sub_cancel → ie, xor_lt_two_pow → j1
open BitVec renaming ofInt → h9
open Go.Proofs.Tryz renaming prog → hY, checked → j4, f7 → k6
open Ne renaming symm → j9
open List.Pairwise renaming nil → k7
namespace Go.X.T
open Go Go.Aml Go.Top
def dR(p:aE)(b a:aL):aE:={p with bw:=b,bq:=a}
def DS(r:aT)(b:aS)(a:dS):Prop:=a.Tag∈r.aw/\a.an=max 0 (r.aa0 -b.cR)/\a.To=r.aa0+b.cR
inductive fv (m:ak) (kr:List Int) (clock:Int) (rs rd:aS) (r:aT) (hd:List aT) (k:Int) (b0 s0:aL):aL->aL->Prop
 |nil:fv m kr clock rs rd r hd k b0 s0 b0 s0
 |Ls {b s b'} (sg:dS):fv m kr clock rs rd r hd k b0 s0 b s->DS r rs sg->oG (λx x'=>x'=x\/lG m x rd.ai sg.an (min sg.To clock) x') (λx=>x.aa0<=sg.an/\∀p,p∈rd.ai->min sg.To clock<fn x.an p) m sg.Tag b b'->fv m kr clock rs rd r hd k b0 s0 b' s
 |Lt {b s s'} (sg:dS) (bm:ak):fv m kr clock rs rd r hd k b0 s0 b s->DS r rs sg->s.aA≠[]->ki m kr bm->oG (λx x'=>x'=x\/lG bm x rd.ai sg.an (min sg.To clock) x') (λx=>x.aa0<=sg.an/\∀p,p∈rd.ai->min sg.To clock<fn x.an p) bm sg.Tag s s'->fv m kr clock rs rd r hd k b0 s0 b s'
 |abs {b s b'} (tag:Int) (a:dC):fv m kr clock rs rd r hd k b0 s0 b s->tag∉r.aw->nc hd k tag rd a->oG (λx x'=>x'=x\/∃g1,og m x rd.ai a.an (min a.To clock) ((rd.dY+1)*rd.dX) x' g1) (λ_=>False) m tag b b'->fv m kr clock rs rd r hd k b0 s0 b' s
 |Lu {b s s'} (tag:Int) (a:dC) (bm:ak):fv m kr clock rs rd r hd k b0 s0 b s->tag∉r.aw->nc hd k tag rd a->s.aA≠[]->ki m kr bm->oG (λx x'=>x'=x\/∃g1,og bm x rd.ai a.an (min a.To clock) ((rd.dY+1)*rd.dX) x' g1) (λ_=>False) bm tag s s'->fv m kr clock rs rd r hd k b0 s0 b s'
def fv.shape{m:ak}{kr:List Int}{clock:Int}{rs rd:aS}{r:aT}{A:List aT}{k:Int}{o u b s:aL}{n np:Nat}(h:fv m kr clock rs rd r A k o u b s)(j:m.ai.length=np)(w:fM n np o)(x:o.aA≠[])(C:fM n np u):(fM n np b/\b.aA≠[])/\fM n np s/\(s.aA=[]↔u.aA=[]):=by
 induction h with
 |nil=>exact⟨⟨w,x⟩,C,Iff.rfl⟩
 |Ls y _ _ d c=>exact⟨⟨c.1.1.aX (Ro j) d,d.ne⟩,c.2⟩
 |Lt y B _ _ t l d c=>exact⟨c.1,c.2.1.aX (Ro (by rw[l.pl];exact j)) d,⟨λh=>absurd h d.ne,λh=>absurd (c.2.2.2 h) t⟩⟩
 |abs tag a _ _ _ d c=>exact⟨⟨c.1.1.aX (T3 j) d,d.ne⟩,c.2⟩
 |Lu tag a B _ _ _ t l d c=>exact⟨c.1,c.2.1.aX (T3 (by rw[l.pl];exact j)) d,⟨λh=>absurd h d.ne,λh=>absurd (c.2.2.2 h) t⟩⟩
def gj(d a:List cy):Prop:=VA a/\∀b,b∈d->∃c,c∈a/\fX c b.abv b.eB
def gj.refl{l:List cy}(h:VA l):gj l l:=⟨h,λb a=>⟨b,a,rfl,rfl⟩⟩
def gj.trans{l d j:List cy}(h:gj l d)(k:gj d j):gj l j:=⟨k.1,λb t=>by
 obtain⟨a,x,u,m⟩:=h.2 b t;obtain⟨c,o,s,w⟩:=k.2 a x;exact⟨c,o,s.trans u,w.trans m⟩⟩
def QP{b:List cy}(a:VA b)(d g p h:Int):Ok (rk LC b d g p h) λq=>gj b q.1/\(q.2=0->∃i,i∈q.1/\fX i d g)/\(q.2≠0->q.1=b):=WI (apS b d g p h) λq j=>by
 rcases j with⟨f,c⟩ |⟨f,c,l,k⟩
 .exact⟨by rw[c];exact gj.refl a,λa=>absurd a f,λ_=>c⟩
 .exact⟨⟨c,k⟩,λ_=>l,λa=>absurd f a⟩
def aas(a:bA)(r:Int):Prop:=∀(i:Nat) (n:Int),a.af[i]?=c7 r->a.aa2[i]?=c7 n->n=0
structure oP (p:aE) (a:Int) (p':aE):Prop where
 ex:∃b s fl sm bm,p'={p with ao:=cY p.ao a,cI:=fl,bw:=b,bq:=s,bz:=sm}/\fl.length=p.cI.length/\
  kW LC (cY p.ao a) p.bw p.au.aa0=c7 (b,0)/\cP (cY p.ao a)/\gG (λx x'=>mP (cY p.ao a) x p.au.aa0 x') p.bw.aA b.aA/\
  ((p.bq.aA=[]/\s=p.bq)\/(p.bq.aA≠[]/\ki (cY p.ao a) p.aa2.af bm/\gG (λx x'=>mP bm x p.au.aa0 x') p.bq.aA s.aA))/\
  ((p.bz.an=[]/\sm=p.bz)\/(p.bz.an≠[]/\sm.an.length=p.ao.ai.length))
inductive gC (p:aE) (e:bH):aE->Prop
 |wait:e.abv=1->fw p.au->0<=e.A->p.au.aa0+e.A<=2147483648->gC p e {p with au:=x7 p.au e.A}
 |walk (w:bC):e.abv=2->fw p.au->0<=e.A->(0<=e.C/\e.C<=3600)->p.au.aN[e.A.toNat]?=c7 w->w.akw<0->0<=mQ p.au.ao e.B w.abG->aas p.aa2 e.B->gC p e {p with au:={p.au with aN:=p.au.aN.set e.A.toNat ⟨w.abG,e.B,mQ p.au.ao e.B w.abG+e.C⟩}}
 |look (k:Nat) (rd:aS) (x':aB) (r:aT):e.abv=3->e.A=(k:Int)->cf p.au k e.C rd x' r->gC p e {p with au:=x',cq:=p.cq.set k r}
 |JE (k:Nat) (rs rd:aS) (r:aT) (num:Int) (hd:List aT) (x:cZ) (b s:aL):e.abv=4->e.A=(k:Int)->p.au.cn[k]?=c7 num->0<=num->p.cq[k]?=c7 r->kb r->p.au.aQ[k]?=c7 rd->p.au.aQ[r.agX.toNat]?=c7 rs->(∃d,hd=(p.bZ++[r]).drop d)->hd.length<=60->(Sm x.dl/\Sm x.dr)->fv p.ao p.aa2.af p.au.aa0 rs rd r hd (k:Int) p.bw p.bq b s->gC p e {p with bZ:=hd,cW:=x,bw:=b,bq:=s}
 |swap (x:aB) (b s:aL) (w w':bC):e.abv=5->fw p.au->(0<=e.A/\e.A<(p.au.aN.length:Int))->(0<=e.B/\e.B<(p.au.aN.length:Int))->e.A≠e.B->p.au.aN[e.A.toNat]?=c7 w->p.au.aN[e.B.toNat]?=c7 w'->w.abG=w'.abG->x={p.au with aw:=gL e.A e.B p.au.aw,bp:=p.au.bp.map (gL e.A e.B)}->AY p.ao e.A e.B p.au.aa0 p.au.aN.length p.ao.ai.length p.bw b->((p.bq.aA=[]/\s=p.bq)\/∃bm,p.bq.aA≠[]/\ki p.ao p.aa2.af bm/\AY bm e.A e.B p.au.aa0 p.au.aN.length p.ao.ai.length p.bq s)->gC p e {p with au:=x,bw:=b,bq:=s}
 |JD (sm:bQ) (al:List cy):e.abv=6->sm.an.length=p.ao.ai.length->gj p.bS al->(∃a,a∈al/\fX a 1 e.A)->gC p e {p with bz:=sm,bS:=al}
 |guard (k:bA):e.abv=7->k.af=p.aa2.af->k.aa2=p.aa2.aa2.set e.A.toNat 2->k.Out=false->p.aa2.Out=false->ff k->0<=e.A->(∀w,w∈p.au.aN->∀r,p.aa2.af[e.A.toNat]?=c7 r->w.akw≠r)->gC p e {p with aa2:=k}
 |shut (k:bA) (s:aL):e.abv=7->k.af=p.aa2.af->k.aa2=p.aa2.aa2.set e.A.toNat 2->(∀n,n∈k.aa2->n=2)->k.Out=true->p.aa2.Out=false->ff k->0<=e.A->(∀w,w∈p.au.aN->∀r,p.aa2.af[e.A.toNat]?=c7 r->w.akw≠r)->Ff p.ao p.bw p.aa2.af p.au.aa0 p.au.aN.length p.ao.ai.length s->gC p e {p with aa2:=k,bq:=s}
 |xX (st:b7):(e.abv=8\/e.abv=9\/e.abv=10)->mW st->rz p.bM p.aa2 p.bq->gC p e {p with cL:=st}
 |xZ (p':aE):e.abv=11->fw p.au->0<=e.A->(∃r,p.au.ao.af[e.A.toNat]?=c7 r/\r.eN=false)->oP {p with au:={p.au with ao:=cY p.au.ao e.A,aN:=p.au.aN.map (n8 e.A)}} e.A p'->gC p e p'
 |xY (p':aE) (al:List Int) (q:ak×List Int×Int):e.abv=12->(∀x,x∈al->∃a,a∈p.bS/\fX a 2 x)->Pp p.ao {p.bR with dg:=filled p.bz (p.au.aa0+600)} p.bw e.A al p.au.aa0 600 q->fw p.au->0<=e.A->(∃r,p.au.ao.af[e.A.toNat]?=c7 r/\r.eN=false)->oP {p with au:={p.au with ao:=cY p.au.ao e.A,aN:=p.au.aN.map (n8 e.A)}} e.A p'->gC p e p'
 |JF (k:bA) (st:b7):e.abv=13->k.af=p.aa2.af->ff k->k.Out=false->(∀n,n∈k.aa2->n=0)->(st=p.cL/\p.cL.State=0\/st=⟨0,0,0,0⟩)->gC p e {p with aa2:=k,cL:=st,bq:=⟨[]⟩}
structure gi (p:aE) (e:bH) (g:aR) (c:Int):Prop where
 ok:c=0->gC p e g.aI
 iI:c≠0->gj p.bS g.aI.bS
 nm:g.named.length<=768
def gi.same{p:aE}{e:bH}{c:Int}{n np:Nat}(h:dW n np p)(a:c≠0):gi p e ⟨p,[]⟩ c:=⟨λh=>absurd h a,λ_=>gj.refl h.iI,by simp⟩
def gi.bad{p a:aE}{e:bH}{c:Int}{n np:Nat}(h:dW n np p)(d:c≠0)(j:a.bS=p.bS):gi p e ⟨a,[]⟩ c:=⟨λh=>absurd h d,λ_=>by show gj p.bS a.bS;rw[j];exact gj.refl h.iI,by simp⟩
def gi.lP{p a:aE}{e:bH}{c:Int}(d:c=0)(j:gC p e a):gi p e ⟨a,[]⟩ c:=⟨λ_=>j,λh=>absurd d h,by simp⟩
section
variable {n np:Nat}{p:aE}{e:bH}
def Wo(c:dW n np p)(k:e.abv=1):Ok (xR LC ⟨p,[]⟩ e) λi=>∃g b,i=cT g b/\gi p e g b:=by
 unfold xR;refine aD (RE e.A c.kN.fit) λq d=>ae ⟨_,_,rfl,?_⟩
 rcases d with⟨a,_⟩ |⟨a,j,l,f,h⟩
 .exact .bad c a rfl
 .rw[h];exact .lP a (.wait k j l f)
def aku(a:dW n np p)(l:e.abv=2):Ok (yV LC ⟨p,[]⟩ e) λz=>∃g d,z=cT g d/\gi p e g d:=by
 unfold yV;have B:=a.key.1.1;have c:=a.key.2.1;refine aD (O5 (k:=p.aa2) (by omega) (by omega)) λt c=>?_
 rw[contains_eq (by show t.length<=_;have:=c.1;omega),aa];refine aV (λ_=>ae ⟨_,_,rfl,.same a (by decide)⟩) (λy=>?_)
 refine aD (ahi e.A e.B e.C a.kN.fit) λq h=>ae ⟨_,_,rfl,?_⟩
 rcases h with⟨b,_⟩ |⟨b,v,w,x,u,r,A,m,s⟩
 .exact .bad a b rfl
 .rw[s];refine .lP b (.walk u l v w x r A m λi n o j=>?_)
  by_cases f:n=0
  .exact f
  .exact absurd ((c.2 e.B).2 ⟨i,n,o,j,f⟩) y
def anv(a:dW n np p)(m:e.abv=3)(h0:0<=e.A)(j:e.A<max 1 (p.au.aQ.length:Int)):Ok (yT LC ⟨p,[]⟩ e) λl=>∃g f,l=cT g f/\gi p e g f:=by
 unfold yT;refine aD (look_ok (x:=p.au) e.A e.B e.C a.kN.fit (by have:=a.kj;have:=a.jR;omega) h0 j a.kj) λq i=>?_
 rcases i with⟨b,d⟩ |⟨b,c,k,d,h⟩
 .rw[aG b];exact ae ⟨_,_,rfl,.same a b⟩
 .rw[aC b];have o:=(ev.1 h.eZ).1;have r:=a.kn;rw[d,bn];show Ok ((p.cq[c]?).bind λ_=>(p.cq[((c:Nat):Int).toNat]?).bind _) _
  rw[dt,c6 (show c<p.cq.length by omega),aa,aa];exact ae ⟨_,_,rfl,.lP b (.look c k q.1 q.2.1 m d h)⟩
def Zi(c:dW n np p)(m:e.abv=8):Ok (vm LC ⟨p,[]⟩ e) λj=>∃g f,j=cT g f/\gi p e g f:=by
 unfold vm;refine c8 (a:=p.au.aa0) rfl ?_
 refine aD (ao0 (x:=p.bM) (s:=p.cL) (k:=p.aa2) (b:=p.bq) e.A p.au.aa0 (h8 c.qx (by decide)) (h8 c.key.sm.1 (by decide)) c.lC.se) λq h=>ae ⟨_,_,rfl,?_⟩
 rcases h with⟨d,_⟩ |⟨d,l,o,i⟩
 .exact .bad c d rfl
 .exact .lP d (.xX q.1 (.inl m) l i)
def amE(c:dW n np p)(m:e.abv=9):Ok (wR LC ⟨p,[]⟩ e) λj=>∃g f,j=cT g f/\gi p e g f:=by
 unfold wR;refine c8 (a:=p.au.aa0) rfl ?_
 refine aD (ajE (x:=p.bM) (s:=p.cL) (k:=p.aa2) (b:=p.bq) e.A p.au.aa0 (h8 c.qx (by decide)) (h8 c.key.sm.1 (by decide)) c.lC.se) λq h=>ae ⟨_,_,rfl,?_⟩
 rcases h with⟨d,_⟩ |⟨d,l,o,i⟩
 .exact .bad c d rfl
 .exact .lP d (.xX q.1 (.inr (.inl m)) l i)
def aeC(c:dW n np p)(m:e.abv=10):Ok (yu LC ⟨p,[]⟩ e) λj=>∃g f,j=cT g f/\gi p e g f:=by
 unfold yu;refine c8 (a:=p.au.aa0) rfl ?_
 refine aD (X1 (x:=p.bM) (s:=p.cL) (k:=p.aa2) (b:=p.bq) p.au.aa0 (c5 (e.B≠0)) (h8 c.qx (by decide)) (h8 c.key.sm.1 (by decide)) c.lC.se) λq h=>ae ⟨_,_,rfl,?_⟩
 rcases h with⟨d,_⟩ |⟨d,l,o,i⟩
 .exact .bad c d rfl
 .exact .lP d (.xX q.1 (.inr (.inr m)) l i)
end
section
variable {n np:Nat}{p:aE}{e:bH}
def CF{g:aR}(b:cP g.aI.ao)(d:cj 0 ((g.aI.ao.af.length:Int) -1) g.aI.aa2.af)(f:g.aI.aa2.af.length<=1000):Ok (mT LC g) λq=>ki g.aI.ao g.aI.aa2.af ⟨q.1,q.2⟩:=by
 unfold mT;refine aD (acx g.aI.ao g.aI.aa2.af (by show _<=4611686018427387904;omega) (by have:=b.2.1;show _<=4611686018427387904;omega)) λq c=>ae ?_
 rcases c with⟨_,a⟩ |⟨_,a,_⟩
 .exact a
 .exact absurd d (a b)
def apk{a b:List Int}(q:a.length=b.length)(o:b.length<=1000000)(h:bQ×Int)(j:h.1.an=b):Ok (bO (λc:List Int×Int=>uq LC h c.1 c.2) (a,0)) λl=>l.length=a.length:=by
 refine di b.length (λi c=>c.2=(i:Int)/\c.1.length=a.length) _ (λi c m f=>?_) (λc f=>?_) _ ⟨rfl,rfl⟩
 .obtain⟨g,k⟩:=c;obtain⟨rfl,d⟩:=f;dsimp only at d⊢;unfold uq;rw[j,aC,bn,c6 m,aa,bn,dt,c6 (show i<g.length by omega)];simp only[aa];rw[aJ];exact ae ⟨rfl,by rw[e0];exact d⟩
 .obtain⟨g,k⟩:=c;obtain⟨rfl,d⟩:=f;dsimp only at d⊢;unfold uq;rw[j,aG];exact ae d
def aiX(f:dW n np p)(B:e.abv=6):Ok (xy LC ⟨p,[]⟩ e) λi=>∃g l,i=cT g l/\gi p e g l:=by
 have F:=f.gq;have I:=F.1;unfold xy;dsimp only;rw[aJ,cF,aa,de];refine aV (λ_=>?_) (λ_=>ae ⟨_,_,rfl,.same f (by decide)⟩)
 refine c8 (a:=p.au.aa0) rfl ?_
 refine aD (amZ p.ao p.cI [e.A] p.au.aa0 (by show(1:Nat)<=_;decide) (by show _<=4611686018427387904;omega)) λq j=>?_
 by_cases m:q.2.2=0
 rotate_left
 .rw[aC m];exact ae ⟨_,_,rfl,.same f m⟩
 rw[aG (by rw[m];simp)];have z:q.1.length=p.ao.ai.length:=by
  rcases j with j |j
  .exact j.2.1.1
  .exact absurd m j.1
 have w:∀o:List Int,o.length=p.ao.ai.length->Ok ((fP LC (aR.mk ({p with bz:=(bQ.mk q.2.1 o)}:aE) [])).bind λE=>(rk LC p.bS 1 e.A 1 E).bind λy=>c7 (cT (aR.mk ({p with bz:=(bQ.mk q.2.1 o),bS:=y.1}:aE) []) y.2)) λi=>∃g l,i=cT g l/\gi p e g l:=λo D=>by
  refine c8 (a:=p.au.aa0) rfl ?_
  refine aD (QP f.iI 1 e.A 1 p.au.aa0) λh c=>ae ⟨_,_,rfl,⟨λh0=>.JD _ _ B D c.1 (c.2.1 h0),λ_=>c.1,by simp⟩⟩
 by_cases r:0<(p.bz.an.length:Int)
 .rw[aC r];have H:p.bz.an.length=p.ao.ai.length:=by
   rcases f.pq with e |e
   .rw[e] at r;simp at r
   .rw[e,f.gk]
  obtain⟨h,x,c⟩:=ajz p.ao p.cI p.ao p.cI p.bz p.au.aa0
  by_cases s:h.2=0
  .have G:h.1.an.length=p.ao.ai.length:=by
    rcases c with c |c
    .exact c.2.1.1
    .exact absurd s c.1
   obtain⟨i,C,A⟩:=apk (a:=q.1) (b:=h.1.an) (by omega) (by omega) h rfl;have t:((fP LC (⟨p,[]⟩:aR)).bind λu=>(uk LC p.ao p.cI p.ao p.cI p.bz u).bind λd=>bif c5 (d.2≠0) then c7 (gv d.2:(List Int)⊕Int) else(bO (λk:List Int×Int=>uq LC d k.1 k.2) (q.1,0)).bind λv=>c7 (ey v))=c7 (ey i):=by
    refine(dL (a:=p.au.aa0) rfl).trans ?_
    rw[x,aa,aG (by rw[s];simp),C,aa]
   refine c8 t ?_
   exact w i (by rw[A,z])
  .have t:((fP LC (⟨p,[]⟩:aR)).bind λu=>(uk LC p.ao p.cI p.ao p.cI p.bz u).bind λd=>bif c5 (d.2≠0) then c7 (gv d.2:(List Int)⊕Int) else(bO (λk:List Int×Int=>uq LC d k.1 k.2) (q.1,0)).bind λv=>c7 (ey v))=c7 (gv h.2):=by
    refine(dL (a:=p.au.aa0) rfl).trans ?_
    rw[x,aa,aC s]
   refine c8 t ?_
   exact ae ⟨_,_,rfl,.same f s⟩
 .rw[aG r,aa];exact w q.1 z
def aiy{a:List bC}(d:Fit a){g:aR}{e:bH}{r:Int}(h:aj g.aI.aa2.af e.A=c7 r):Dv LC a g e=c7 (a.any λb=>c5 (b.akw=r)):=by
 unfold Dv;have f:Er LC a g e=c7 (gg (λb=>c5 (b.akw=r)) a):=by
  unfold Er;refine fF (P:=λc=>B0 LC c g e) d (λc _=>?_) λi=>rfl
  unfold B0;rw[h,aa]
 rw[f,aa,gm]
def afn{b:List Int}(c:Fit b):zA LC b=c7 (b.any λa=>c5 (a≠2)):=by
 unfold zA;have d:CC LC b=c7 (gg (λa=>c5 (a≠2)) b):=by
  unfold CC;exact fF (P:=λa=>KV LC a) c (λa _=>rfl) λf=>rfl
 rw[d,aa,gm]
def anG(b:dW n np p)(D:e.abv=7):Ok (vA LC ⟨p,[]⟩ e) λW=>∃g F,W=cT g F/\gi p e g F:=by
 have ac:=b.key.1.1;have ah:=b.key.2.1;have M:p.au.aN.length=n:=b.iz;have ag:=b.n3;have s:Fit p.aa2.af:=by show _<=4611686018427387904;omega
 unfold vA;dsimp only;rw[aJ,cF,aa,de];refine aV (λA=>?_) (λ_=>ae ⟨_,_,rfl,.same b (by decide)⟩)
 have y:p.aa2.af[e.A.toNat]?=c7 (p.aa2.af[e.A.toNat]'(by omega)):=c6 _;generalize p.aa2.af[e.A.toNat]'(by omega)=r at y;have N:aj p.aa2.af e.A=c7 r:=by unfold aj;rw[if_pos A.1];exact y
 refine c8 (aiy (by show _<=4611686018427387904;omega) N) ?_
 refine dy (λ_=>ae ⟨_,_,rfl,.same b (by decide)⟩) (λJ=>?_)
 have E:∀f,f∈p.au.aN->∀r,p.aa2.af[e.A.toNat]?=c7 r->f.akw≠r:=λf O af j=>by
  rw[y] at j;injection j with j
  subst j;intro c;have:(p.au.aN.any λf=>c5 (f.akw=r))=true:=j5.2 ⟨f,O,decide_eq_true c⟩;rw[J] at this;cases this
 obtain⟨o,T,w⟩:=Dx (k:=p.aa2) e.A 0 1 s;refine c8 (a:=(o.1,o.2)) (by unfold GQ;rw[T,aa]) ?_
 dsimp only;refine aV (λc=>ae ⟨_,_,rfl,.bad b c rfl⟩) (λc=>?_)
 have w:=w.resolve_left λb=>c b.1
 obtain⟨_,Q,_,ai,I,m⟩:=w;have U:ff o.1:=by rw[m];exact Q.move (by decide)
 obtain⟨d,P,v⟩:=Dx (k:=o.1) e.A 1 2 (by rw[m];exact s);refine c8 (a:=(d.1,d.2)) (by unfold J0;rw[P,aa]) ?_
 dsimp only;refine aV (λc=>ae ⟨_,_,rfl,.bad b c rfl⟩) (λX=>?_)
 have v:=v.resolve_left λb=>X b.1
 obtain⟨_,_,_,_,_,q⟩:=v;have l:ff d.1:=by rw[q];exact U.move (by decide)
 have u:d.1.af=p.aa2.af:=by rw[q,m]
 have z:d.1.aa2=p.aa2.aa2.set e.A.toNat 2:=by rw[q,m];exact List.set_set _
 have Z:d.1.Out=false:=by rw[q]
 rw[afn (by show _<=4611686018427387904;rw[z,e0];omega),aa];refine dy (λ_=>ae ⟨_,_,rfl,.lP rfl (.guard d.1 D u z Z I l A.1 E)⟩) (λR=>?_)
 have H:∀h,h∈d.1.aa2->h=2:=λh Y=>by
  by_cases c:h=2
  .exact c
  .have:(d.1.aa2.any λV=>c5 (V≠2))=true:=j5.2 ⟨h,Y,decide_eq_true c⟩;rw[R] at this;cases this
 obtain⟨x,K,B⟩:=ap1 (k:=d.1) (by rw[u];exact s);rw[K,aa];refine aV (λc=>ae ⟨_,_,rfl,.bad b c rfl⟩) (λL=>?_)
 have B:=B.resolve_left λb=>L b.1
 obtain⟨_,_,_,_,i⟩:=B;refine c8 (a:=p.au.aa0) rfl ?_
 have t:x.1.af=p.aa2.af:=by rw[i];exact u
 have ad:=b.mq;have ak:=b.gq.2.1;refine aD (Uw p.ao p.bw x.1.af p.au.aa0 (n:=p.au.aN.length) (np:=p.ao.ai.length) (by omega) (by rw[b.gk];omega) b.lC.be (by rw[t];exact s) (by show _<=4611686018427387904;omega) (by rw[M,b.gk];exact b.hZ.mX) rfl) λS ab=>ae ⟨_,_,rfl,?_⟩
 rcases ab with⟨C,G⟩ |C
 .rw[t] at G;refine .lP C (.shut x.1 S.1 D t ?_ ?_ ?_ I ?_ A.1 E G)
  .rw[i];exact z
  .rw[i];exact H
  .rw[i]
  .rw[i];exact⟨l.1,l.2.1,l.2.2.1,λ_=>H⟩
 .exact .bad b C rfl
def amp(b:dW n np p)(o:e.abv=5):Ok (yb LC ⟨p,[]⟩ e) λJ=>∃g r,J=cT g r/\gi p e g r:=by
 have t:p.au.aN.length=n:=b.iz;have M:=b.n3;have L:=b.mq;have K:=b.key.1.1;unfold yb;refine aD (ZX (x:=p.au) e.A e.B b.kN.fit (by have:=b.kj;have:=b.jR;omega)) λq E=>?_
 rcases E with⟨h,N⟩ |⟨h,y,B,s,A,⟨u,C,w,D,m⟩,i⟩
 .rw[aC h];exact ae ⟨_,_,rfl,.bad b h rfl⟩
 rw[aG (by rw[h];simp)];refine c8 (a:=p.au.aa0) (by unfold fP;rw[i]) ?_
 refine aD (RM p.ao p.bw e.A e.B p.au.aa0 (n:=p.au.aN.length) (np:=p.ao.ai.length) (by omega) (by rw[b.gk];omega) b.lC.be (by rw[t,b.gk];exact b.hZ.mX)) λf j=>?_
 by_cases d:f.2=0
 rotate_left
 .rw[aC d,aa,cond_true];exact ae ⟨_,_,rfl,.bad b d rfl⟩
 have j:=j.resolve_right λb=>b.1 d
 rw[aG (by rw[d];simp)];refine c8 (a:=!c5 (0<((p.bq.aA).length:Int))) rfl ?_
 rw[de];refine Or.elim (Decidable.em (0<((p.bq.aA).length:Int))) (λc=>?_) (λc=>?_)
 rotate_left
 .rw[aG c];refine ae ⟨_,_,rfl,.lP d ?_⟩
  exact .swap q.1 f.1 p.bq u C o y B s A w D m i j.2 (.inl ⟨gx.1 (by omega),rfl⟩)
 rw[aC c]
 .have G:p.bq.aA≠[]:=λI=>by rw[I] at c;simp at c
  refine aD (CF (g:=⟨{p with au:=q.1,bw:=f.1},[]⟩) b.gq b.jY (by show p.aa2.af.length<=_;omega)) λz k=>?_
  refine c8 (a:=p.au.aa0) (by unfold fP;rw[i]) ?_
  have k:ki p.ao p.aa2.af ⟨z.1,z.2⟩:=k;refine aD (RM ⟨z.1,z.2⟩ p.bq e.A e.B p.au.aa0 (n:=p.au.aN.length) (np:=p.ao.ai.length) (by omega) (by rw[b.gk];omega) b.lC.se (by rw[t,b.gk];exact b.je.mX)) λv H=>ae ⟨_,_,rfl,?_⟩
  rcases H with⟨l,F⟩ |⟨l,_⟩
  .exact .lP l (.swap q.1 f.1 v.1 u C o y B s A w D m i j.2 (.inr ⟨_,G,k,F⟩))
  .exact .bad b l rfl
end
section
variable {n np:Nat}{p:aE}{e:bH}
def Uc(c:dW n np p)(b:aB){a:Int}{r:aZ}{nm:List Int}(N:0<=a)(w:p.ao.af[a.toNat]?=c7 r):Ok (xg LC ⟨{p with au:=b},nm⟩ a) λE=>∃g k,E=cT g k/\(k=0->oP {p with au:=b} a g.aI)/\g.aI.bS=p.bS/\g.named=nm:=by
 have m:=c.lC;have af:=(ev.1 w).1;have ac:=c.uD;have ag:=c.gq.1;have ah:=c.gq.2.1;unfold xg;dsimp only;rw[zS m.fl,aa,mV m.pl,aa,nk m.rd,aa];have R:aj p.ao.af a=c7 r:=by unfold aj;rw[if_pos N];exact w
 have F:p.cI[a.toNat]?=c7 (p.cI[a.toNat]'(by omega)):=c6 _;generalize p.cI[a.toNat]'(by omega)=f at F;have Y:aj p.cI a=c7 f:=by unfold aj;rw[if_pos N];exact F
 rw[R,aa,w,aa,Y,aa,F,aa,aa];have W:ak.mk p.ao.ai (p.ao.af.set a.toNat {r with eN:=true})=cY p.ao a:=by unfold cY;rw[w]
 rw[W];show Ok ((fP LC ⟨{p with au:=b,ao:=cY p.ao a},nm⟩).bind λT=>(kW LC (cY p.ao a) p.bw T).bind _) _
 refine c8 (a:=b.aa0) rfl ?_
 obtain⟨q,Q,y⟩:=Gq (cY p.ao a) p.bw b.aa0 m.be (by show p.ao.ai.length<=4611686018427387904;omega);rw[Q,aa]
 by_cases j:q.2=0
 rotate_left
 .rw[aC j];exact ae ⟨⟨{p with au:=b,ao:=cY p.ao a,bw:=q.1},nm⟩,q.2,rfl,λc=>absurd c j,rfl,rfl⟩
 rw[aG (by rw[j];simp)];have y:=y.resolve_right λc=>c.1 j
 obtain⟨_,G,_,_,H⟩:=y;have I:kW LC (cY p.ao a) p.bw b.aa0=c7 (q.1,0):=by rw[Q, <-j]
 have Z:=uF p.ao a;refine c8 (a:=c5 (0<(p.bq.aA.length:Int))) rfl ?_
 have J:∀(d:aL) (s:ak),((p.bq.aA=[]/\d=p.bq)\/(p.bq.aA≠[]/\ki (cY p.ao a) p.aa2.af s/\gG (λab U=>mP s ab b.aa0 U) p.bq.aA d.aA))->
  Ok (bif c5 (0<((p.bz.an).length:Int)) then
  (fP LC ⟨{p with au:=b,ao:=cY p.ao a,bw:=q.1,bq:=d},nm⟩).bind λS=>
  (yg LC (p.cI.set a.toNat (bI.mk 0 0)) p.ao p.cI (cY p.ao a) p.bz S).bind λl=>
  bif c5 (l.2.2≠0) then
   c7 (cT ⟨{p with au:=b,ao:=cY p.ao a,bw:=q.1,bq:=d,bz:=l.2.1},nm⟩ l.2.2)
  else
   c7 (cT ⟨{p with au:=b,ao:=cY p.ao a,bw:=q.1,bq:=d,cI:=l.1,bz:=l.2.1},nm⟩ 0)
  else
   c7 (cT ⟨{p with au:=b,ao:=cY p.ao a,bw:=q.1,bq:=d,cI:=p.cI.set a.toNat (bI.mk 0 0)},nm⟩ 0)) λE=>∃g k,E=cT g k/\(k=0->oP {p with au:=b} a g.aI)/\g.aI.bS=p.bS/\g.named=nm:=by
   intro d s K;refine aV (λA=>?_) (λA=>?_)
   .refine c8 (a:=b.aa0) rfl ?_
    refine aD (akv p.ao p.cI (cY p.ao a) (p.cI.set a.toNat (bI.mk 0 0)) p.bz b.aa0) λL P=>?_
    refine aV (λi=>ae ⟨_,_,rfl,λc=>absurd c i,rfl,rfl⟩) (λi=>?_)
    have V:=P.2.resolve_right λc=>i c.1
    refine ae ⟨_,_,rfl,λ_=>⟨q.1,d,L.1,L.2.1,s,rfl,by rw[P.1,e0],I,G,H,K,.inr ⟨λi=>by rw[i] at A;simp at A,V.2.1.1⟩⟩,rfl,rfl⟩
   .exact ae ⟨_,_,rfl,λ_=>⟨q.1,d,_,p.bz,s,rfl,by rw[e0],I,G,H,K,.inl ⟨gx.1 (show p.bz.an.length=0 by omega),rfl⟩⟩,rfl,rfl⟩
 by_cases x:0<(p.bq.aA.length:Int)
 .rw[aC x];have X:p.bq.aA≠[]:=λi=>by rw[i] at x;simp at x
  obtain⟨z,M,t⟩:=CF (g:=⟨{p with au:=b,ao:=cY p.ao a,bw:=q.1},nm⟩) G (by show cj 0 (((cY p.ao a).af.length:Int) -1) p.aa2.af;rw[Z];exact c.jY) (by show p.aa2.af.length<=_;have:=c.key.1.1;omega);have t:ki (cY p.ao a) p.aa2.af ⟨z.1,z.2⟩:=t;obtain⟨v,O,C⟩:=Gq ⟨z.1,z.2⟩ p.bq b.aa0 m.se (by have:=congrArg j6 t.pl;show z.1.length<=4611686018427387904;have ad:z.1.length=p.ao.ai.length:=this;omega)
  by_cases u:v.2=0
  .have B:((mT LC ⟨{p with au:=b,ao:=cY p.ao a,bw:=q.1},nm⟩).bind λo=>(fP LC ⟨{p with au:=b,ao:=cY p.ao a,bw:=q.1},nm⟩).bind λD=>(kW LC (ak.mk o.1 o.2) p.bq D).bind λh=>
    bif c5 (h.2≠0) then c7 (gv (iv ⟨{p with au:=b,ao:=cY p.ao a,bw:=q.1,bq:=h.1},nm⟩ h.2):jk⊕jU) else c7 (ey (fj ⟨{p with au:=b,ao:=cY p.ao a,bw:=q.1,bq:=h.1},nm⟩)))=c7 (ey (fj ⟨{p with au:=b,ao:=cY p.ao a,bw:=q.1,bq:=v.1},nm⟩)):=by
    rw[M,aa];refine(dL (a:=b.aa0) rfl).trans ?_
    rw[O,aa,aG (by rw[u];simp)]
   refine c8 B ?_
   have C:=C.resolve_right λc=>c.1 u
   exact J v.1 ⟨z.1,z.2⟩ (.inr ⟨X,t,C.2.2.2.2⟩)
  .have B:((mT LC ⟨{p with au:=b,ao:=cY p.ao a,bw:=q.1},nm⟩).bind λo=>(fP LC ⟨{p with au:=b,ao:=cY p.ao a,bw:=q.1},nm⟩).bind λD=>(kW LC (ak.mk o.1 o.2) p.bq D).bind λh=>
    bif c5 (h.2≠0) then c7 (gv (iv ⟨{p with au:=b,ao:=cY p.ao a,bw:=q.1,bq:=h.1},nm⟩ h.2):jk⊕jU) else c7 (ey (fj ⟨{p with au:=b,ao:=cY p.ao a,bw:=q.1,bq:=h.1},nm⟩)))=c7 (gv (iv ⟨{p with au:=b,ao:=cY p.ao a,bw:=q.1,bq:=v.1},nm⟩ v.2)):=by
    rw[M,aa];refine(dL (a:=b.aa0) rfl).trans ?_
    rw[O,aa,aC u]
   refine c8 B ?_
   exact ae ⟨⟨{p with au:=b,ao:=cY p.ao a,bw:=q.1,bq:=v.1},nm⟩,v.2,rfl,λc=>absurd c u,rfl,rfl⟩
 .rw[aG x,aa];exact J p.bq p.ao (.inl ⟨gx.1 (by omega),rfl⟩)
def Oc(a:dW n np p){nm:List Int}:Ok (tM LC ⟨p,nm⟩ e) λh=>∃g b,h=cT g b/\(b=0->fw p.au/\0<=e.A/\(∃r,p.au.ao.af[e.A.toNat]?=c7 r/\r.eN=false)/\oP {p with au:={p.au with ao:=cY p.au.ao e.A,aN:=p.au.aN.map (n8 e.A)}} e.A g.aI)/\g.aI.bS=p.bS/\g.named=nm:=by
 unfold tM;refine aD (Uf (x:=p.au) e.A a.kN.fit) λq j=>?_
 rcases j with⟨c,i⟩ |⟨c,i,f,⟨r,d,o⟩,t⟩
 .rw[aC c];exact ae ⟨_,_,rfl,λa=>absurd a c,rfl,rfl⟩
 rw[aG (by rw[c];simp),t];refine aD (Uc a {p.au with ao:=cY p.au.ao e.A,aN:=p.au.aN.map (n8 e.A)} (r:=r) (nm:=nm) f (by rw[<-a.fN];exact d)) λh s=>?_
 obtain⟨g,b,rfl,k,l,u⟩:=s;exact ae ⟨g,b,rfl,λm=>⟨i,f,⟨r,d,o⟩,k m⟩,l,u⟩
def agT(b:dW n np p)(o:e.abv=11):Ok (tM LC ⟨p,[]⟩ e) λc=>∃g a,c=cT g a/\gi p e g a:=WI (Oc b) λc j=>by
 obtain⟨g,a,d,f,q,k⟩:=j;refine⟨g,a,d,λh=>?_,λ_=>by rw[q];exact gj.refl b.iI,by rw[k];simp⟩
 obtain⟨r,i,l,m⟩:=f h;exact .xZ _ o r i l m
def akk(s:VA p.bS):Ok (bO (λb:List Int×Int=>Co LC ⟨p,[]⟩ b.1 b.2) ([],0)) λf=>f.length<=64/\∀a,a∈f->∃c,c∈p.bS/\fX c 2 a:=by
 have m:=s.1;refine di p.bS.length (λi b=>b.2=(i:Int)/\b.1.length<=i/\∀a,a∈b.1->∃c,c∈p.bS/\fX c 2 a) _ (λi b k j=>?_) (λb j=>?_) _ ⟨rfl,ga _,λa d=>by cases d⟩
 .obtain⟨r,q⟩:=b;obtain⟨rfl,h,d⟩:=j;dsimp only at h d⊢;unfold Co;dsimp only;have o:=c6 k;have l:=dT k;generalize p.bS[i]=c at o l;rw[aC,bn,o,aa,aJ];refine aD (Q:=λf:List Int=>f.length<=i+1/\∀a,a∈f->∃c,c∈p.bS/\fX c 2 a) ?_ λf m=>ae ⟨rfl,m⟩
  refine aV (λt=>?_) (λ_=>ae ⟨by omega,d⟩)
  rw[dm (by decide) (by omega),aa];refine ae ⟨by rw[ea];simp;omega,λa g=>?_⟩
  rcases ec.1 g with g |g
  .exact d a g
  .rw[e4] at g;exact⟨c,l,t,g.symm⟩
 .obtain⟨r,q⟩:=b;obtain⟨rfl,h,d⟩:=j;dsimp only at h d⊢;unfold Co;dsimp only;rw[aG];exact ae ⟨by omega,d⟩
def abh(t:VA p.bS)(d:ak×List Int×Int)(w:d.2.1.length<=768):Ok (bO (λg:nH=>tB LC d ⟨p,[]⟩ (tP p.cq p.bZ p.bB g) (um g)) (jw ⟨p,d.2.1⟩ 0)) λf=>∃c,f=fj ⟨{p with bS:=c},d.2.1⟩/\gj p.bS c:=by
 refine di d.2.1.length (λi g=>∃c,g=jw ⟨{p with bS:=c},d.2.1⟩ (i:Int)/\gj p.bS c) _ (λi g v l=>?_) (λg l=>?_) _ ⟨p.bS,rfl,gj.refl t⟩
 .obtain⟨c,rfl,h⟩:=l;show Ok (tB LC d ⟨p,[]⟩ ⟨{p with bS:=c},d.2.1⟩ (i:Int)) _
  unfold tB;rw[aC,bn,c6 v,aa];refine c8 (a:=p.au.aa0) rfl ?_
  obtain⟨q,s,o⟩:=QP h.1 2 (d.2.1[i]) 2 p.au.aa0;refine c8 s ?_
  have fin:∀j,gj p.bS j->Ok (c7 (ey (jw ⟨{p with bS:=j},d.2.1⟩ (c3 c4 ((i:Int)+1)))):Option (nH⊕jk)) λf=>match f with
   | .inl r=>∃c,r=jw ⟨{p with bS:=c},d.2.1⟩ ((i+1:Nat):Int)/\gj p.bS c
   | .inr b=>∃c,b=fj ⟨{p with bS:=c},d.2.1⟩/\gj p.bS c:=λj u=>by
   rw[aJ];exact ae ⟨j,rfl,u⟩
  by_cases m:q.2=0
  .rw[aC m,aa];exact WI (fin q.1 (h.trans o.1)) λf k=>by cases f <;> exact k
  .rw[aG m,aa];exact WI (fin c h) λf k=>by cases f <;> exact k
 .obtain⟨c,rfl,h⟩:=l;show Ok (tB LC d ⟨p,[]⟩ ⟨{p with bS:=c},d.2.1⟩ (d.2.1.length:Int)) _
  unfold tB;rw[aG];exact ae ⟨c,rfl,h⟩
def af5(c:dW n np p)(H:fw p.au)(y:e.abv=12):Ok (xQ LC ⟨p,[]⟩ e) λr=>∃g i,r=cT g i/\gi p e g i:=by
 have j:=c.lC;have L:=c.gq.1;have M:=c.gq.2.1;have K:0<=p.au.aa0/\p.au.aa0<=2147483648:=H.2.2.2.2.1;unfold xQ;dsimp only;rw[aJ,cF,aa]
 by_cases o:0<=e.A/\e.A<=(p.ao.af.length:Int) -1
 rotate_left
 .rw[decide_eq_false o,Bool.not_false,cond_true,aa,cond_true];exact ae ⟨_,_,rfl,.same c (by decide)⟩
 rw[decide_eq_true o,ej,cond_false];have C:aj p.ao.af e.A=c7 (p.ao.af[e.A.toNat]'(by omega)):=by unfold aj;rw[if_pos o.1];exact c6 _
 rw[C,aa,aa];refine dy (λ_=>ae ⟨_,_,rfl,.same c (by decide)⟩) (λ_=>?_)
 refine c8 (a:=p.au.aa0) rfl ?_
 rw[aJ,Oo j.sm,aa];refine aD (akk c.iI) λal v=>?_
 refine c8 (a:=p.au.aa0) rfl ?_
 have J:(filled p.bz (p.au.aa0+600)).length<=64:=by
  have I:(filled p.bz (p.au.aa0+600)).length<=p.bz.an.length:=pQ;have s:=c.mq;have x:p.bz.an.length<=64:=by
   rcases c.pq with k |k
   .rw[k];simp
   .omega
  omega
 obtain⟨q,E,f⟩:=Ws (m:=p.ao) (e:={p.bR with dg:=filled p.bz (p.au.aa0+600)}) (b:=p.bw) (a:=e.A) (al:=al) (t:=p.au.aa0) (ahead:=600) j.pl j.rd ⟨c.kI.1.s,by show(filled p.bz (p.au.aa0+600)).length<=4611686018427387904;omega,c.kI.1.h⟩ j.be (by show al.length<=4611686018427387904;have:=v.1;omega);rw[E,aa]
 by_cases d:q.2.2=0
 .rw[aG (by rw[d];decide),aa];rw[aG (by rw[d];simp)];refine aD (Oc (p:=p) (e:=e) c (nm:=q.2.1)) λr l=>?_
  obtain⟨g,i,rfl,s,k,x⟩:=l;refine ae ⟨g,i,rfl,λh=>?_,λ_=>by rw[k];exact gj.refl c.iI,by rw[x];exact f.1⟩
  obtain⟨D,z,F,G⟩:=s h;exact .xY _ al q y v.2 (f.2 d) D z F G
 .by_cases u:q.2.2=46
  .rw[aC u];obtain⟨r,A,w,l,B⟩:=abh c.iI q f.1;refine c8 (a:=fj ⟨{p with bS:=w},q.2.1⟩) ?_ ?_
   .refine(dL A).trans ?_
    rw[l]
    rfl
   .rw[aC d];exact ae ⟨⟨{p with bS:=w},q.2.1⟩,q.2.2,rfl,λh=>absurd h d,λ_=>B,f.1⟩
  .rw[aG u,aa,aC d];exact ae ⟨⟨p,q.2.1⟩,q.2.2,rfl,λh=>absurd h d,λ_=>gj.refl c.iI,f.1⟩
end
section
variable {n np:Nat}{p:aE}{e:bH}
def eL(p:aE)(b:bA)(a:b7):aE:={p with aa2:=b,cL:=a}
def aad(d:b7){f:bA}(h0:ff f)(U:f.af=p.aa2.af)(T:f.Out=false):Ok (bO (λs:nH=>qm LC ⟨eL p f d,[]⟩ ⟨p,[]⟩ (tP p.cq p.bZ p.bB s) (um s)) (jw ⟨eL p f d,[]⟩ 0)) λc=>(∃k,c=gv (fj ⟨eL p k d,[]⟩)/\ff k/\k.af=p.aa2.af/\k.Out=false/\∀n,n∈k.aa2->n=0)\/∃k g,c=ey (iv ⟨eL p k d,[]⟩ g)/\g≠0:=by
 have Z:=h0.2.1;have af:=h0.1.1;refine di f.aa2.length (λi s=>∃k,s=jw ⟨eL p k d,[]⟩ (i:Int)/\ff k/\k.af=p.aa2.af/\k.Out=false/\k.aa2.length=f.aa2.length/\∀(b:Nat) n,b<i->k.aa2[b]?=c7 n->n=0) _ (λi s ac I=>?_) (λs I=>?_) _ ⟨f,rfl,h0,U,T,rfl,λb n u=>by omega⟩
 .obtain⟨k,rfl,t,z,L,M,D⟩:=I;show Ok (qm LC ⟨eL p f d,[]⟩ ⟨p,[]⟩ ⟨eL p k d,[]⟩ (i:Int)) _
  unfold qm;have F:k.aa2[i]?=c7 (k.aa2[i]'(by omega)):=c6 _;generalize k.aa2[i]'(by omega)=v at F;have ab:=t.2.2.1 v (fC F);rw[aC (by show(i:Int)<(f.aa2.length:Int);omega)];show Ok ((aj k.aa2 (i:Int)).bind _) _
  rw[bn,F,aa];have bad:∀(q:bA) (g:Int),g≠0->Ok (c7 (gv (ey (iv ⟨eL p q d,[]⟩ g))):Option (nH⊕(jU⊕jk))) λc=>match c with
   | .inl x=>∃k,x=jw ⟨eL p k d,[]⟩ ((i+1:Nat):Int)/\ff k/\k.af=p.aa2.af/\k.Out=false/\k.aa2.length=f.aa2.length/\∀(b:Nat) n,b<i+1->k.aa2[b]?=c7 n->n=0
   | .inr c=>(∃k,c=gv (fj ⟨eL p k d,[]⟩)/\ff k/\k.af=p.aa2.af/\k.Out=false/\∀n,n∈k.aa2->n=0)\/∃k g,c=ey (iv ⟨eL p k d,[]⟩ g)/\g≠0:=λq g X=>ae (.inr ⟨q,g,rfl,X⟩)
  have fin:∀q:bA,ff q->q.af=p.aa2.af->q.Out=false->q.aa2.length=f.aa2.length->(∀(b:Nat) n,b<i+1->q.aa2[b]?=c7 n->n=0)->Ok (c7 (ey (jw ⟨eL p q d,[]⟩ (c3 c4 ((i:Int)+1)))):Option (nH⊕(jU⊕jk))) λc=>match c with
   | .inl x=>∃k,x=jw ⟨eL p k d,[]⟩ ((i+1:Nat):Int)/\ff k/\k.af=p.aa2.af/\k.Out=false/\k.aa2.length=f.aa2.length/\∀(b:Nat) n,b<i+1->k.aa2[b]?=c7 n->n=0
   | .inr c=>(∃k,c=gv (fj ⟨eL p k d,[]⟩)/\ff k/\k.af=p.aa2.af/\k.Out=false/\∀n,n∈k.aa2->n=0)\/∃k g,c=ey (iv ⟨eL p k d,[]⟩ g)/\g≠0:=λq y G N C E=>by
   rw[aJ];exact ae ⟨q,rfl,y,G,N,C,E⟩
  have O:∀q:bA,ff q->q.af=p.aa2.af->q.Out=false->q.aa2.length=f.aa2.length->(∀(b:Nat) n,b<i->q.aa2[b]?=c7 n->n=0)->(∃w,q.aa2[i]?=c7 w/\(w=0\/w=1))->Ok ((aj q.aa2 (i:Int)).bind λV=>
   (bif c5 (V=1) then
    (vJ LC q (i:Int)).bind λH=>
    bif c5 (H.2≠0) then c7 (gv (iv ⟨eL p H.1 d,[]⟩ H.2)) else c7 (ey (fj ⟨eL p H.1 d,[]⟩))
    else c7 (ey (fj ⟨eL p q d,[]⟩)):Option (jk⊕jU)).bind λW=>
   j7 (λY=>c7 (ey (jw (lu p.cq p.bZ p.bB Y) (c3 c4 ((i:Int)+1))))) (λR=>c7 (gv (ey (iv (nT p.cq p.bZ p.bB R) (nO R))))) W) λc=>match c with
   | .inl x=>∃k,x=jw ⟨eL p k d,[]⟩ ((i+1:Nat):Int)/\ff k/\k.af=p.aa2.af/\k.Out=false/\k.aa2.length=f.aa2.length/\∀(b:Nat) n,b<i+1->k.aa2[b]?=c7 n->n=0
   | .inr c=>(∃k,c=gv (fj ⟨eL p k d,[]⟩)/\ff k/\k.af=p.aa2.af/\k.Out=false/\∀n,n∈k.aa2->n=0)\/∃k g,c=ey (iv ⟨eL p k d,[]⟩ g)/\g≠0:=λq y G N C E ⟨w,P,ad⟩=>by
   rw[bn,P,aa]
   by_cases Q:w=1
   .rw[aC Q];obtain⟨h,B,K⟩:=Dx (k:=q) (i:Int) 1 0 (by show _<=4611686018427387904;have:=y.1.1;omega);rw[show vJ LC q (i:Int)=c7 h by unfold vJ;rw[B,aa],aa]
    by_cases o:h.2=0
    .rw[aG (by rw[o];simp),aa];obtain⟨_,_,_,_,_,j⟩:=K.resolve_left λJ=>J.1 o
     rw[dt] at j;refine WI (fin h.1 (by rw[j];exact y.move (by decide)) (by rw[j];exact G) (by rw[j]) (by rw[j,e0];exact C) λb r u l=>?_) λc m=>by cases c <;> exact m
     rw[j] at l
     by_cases A:i=b
     .subst A;have:(q.aa2.set i 0)[i]?=c7 r:=l;rw[eo (by omega)] at this;injection this with this
      exact this.symm
     .have:(q.aa2.set i 0)[b]?=c7 r:=l;rw[ei A] at this;exact E b r (by omega) this
    .rw[aC o,aa];exact WI (bad h.1 h.2 o) λc m=>by cases c <;> exact m
   .rw[aG Q,aa];refine WI (fin q y G N C λb r u l=>?_) λc m=>by cases c <;> exact m
    by_cases A:i=b
    .subst A;rw[P] at l;injection l with l
     omega
    .exact E b r (by omega) l
  by_cases S:v=2
  .rw[aC S];obtain⟨h,B,K⟩:=Dx (k:=k) (i:Int) 2 1 (by show _<=4611686018427387904;have:=t.1.1;omega)
   by_cases o:h.2=0
   .obtain⟨_,_,_,_,_,j⟩:=K.resolve_left λJ=>J.1 o
    rw[dt] at j;refine c8 (a:=ey (fj ⟨eL p h.1 d,[]⟩)) ?_ ?_
    .show((qu LC k (i:Int)).bind _)=_
     rw[show qu LC k (i:Int)=c7 h by unfold qu;rw[B,aa],aa,aG (by rw[o];simp)]
     rfl
    .refine WI (O h.1 (by rw[j];exact t.move (by decide)) (by rw[j];exact z) (by rw[j]) (by rw[j,e0];exact M) (λb r u l=>?_) ⟨1,by rw[j];exact eo (by omega),.inr rfl⟩) λc m=>by cases c <;> exact m
     rw[j] at l;have:(k.aa2.set i 1)[b]?=c7 r:=l;rw[ei (by omega)] at this;exact D b r u this
   .refine c8 (a:=gv (iv ⟨eL p h.1 d,[]⟩ h.2)) ?_ ?_
    .show((qu LC k (i:Int)).bind _)=_
     rw[show qu LC k (i:Int)=c7 h by unfold qu;rw[B,aa],aa,aC o]
     rfl
    .exact WI (bad h.1 h.2 o) λc m=>by cases c <;> exact m
  .rw[aG S,aa];exact WI (O k t z L M D ⟨v,F,by omega⟩) λc m=>by cases c <;> exact m
 .obtain⟨k,rfl,t,z,L,M,D⟩:=I;show Ok (qm LC ⟨eL p f d,[]⟩ ⟨p,[]⟩ ⟨eL p k d,[]⟩ (f.aa2.length:Int)) _
  unfold qm;rw[aG (by show ¬(f.aa2.length:Int)<(f.aa2.length:Int);omega)];refine ae (.inl ⟨k,rfl,t,z,L,λr l=>?_⟩)
  obtain⟨b,u,rfl⟩:=dv.1 l;exact D b _ (by omega) (c6 u)
def YJ(c:dW n np p)(F:e.abv=13):Ok (xE LC ⟨p,[]⟩ e) λi=>∃g f,i=cT g f/\gi p e g f:=by
 have R:=c.key.1.1;have M:=c.key.2.1;unfold xE;refine aD (O5 (k:=p.aa2) (by omega) (by omega)) λQ M=>?_
 refine aV (λ_=>ae ⟨_,_,rfl,.same c (by decide)⟩) (λ_=>?_)
 have A:∀(b:b7) (k:bA),(b=p.cL/\p.cL.State=0\/b=⟨0,0,0,0⟩)->ff k->k.af=p.aa2.af->k.Out=false->Ok ((bO (λs=>qm LC ⟨eL p k b,[]⟩ ⟨p,[]⟩ (tP p.cq p.bZ p.bB s) (um s)) (jw ⟨eL p k b,[]⟩ 0)).bind λy=>
  j7 (λl=>c7 (cT (nT p.cq p.bZ p.bB l) (nO l))) (λz=>let j:=lu p.cq p.bZ p.bB z;c7 (cT (aR.mk ({j.aI with bq:=(aL.mk ([]:List ay))}:aE) j.named) 0)) y) λi=>∃g f,i=cT g f/\gi p e g f:=λb k m L H O=>by
  refine aD (aad b L H O) λi t=>?_
  rcases t with⟨r,rfl,K,J,E,I⟩ |⟨r,f,rfl,N⟩
  .exact ae ⟨⟨{p with aa2:=r,cL:=b,bq:=⟨[]⟩},[]⟩,0,rfl,.lP rfl (.JF r b F J K E I m)⟩
  .exact ae ⟨⟨eL p r b,[]⟩,f,rfl,.bad c N rfl⟩
 have C:∀b:b7,(b=p.cL/\p.cL.State=0\/b=⟨0,0,0,0⟩)->Ok ((bif p.aa2.Out then
  (vQ LC p.aa2).bind λq=>
  bif c5 (q.2≠0) then c7 (gv (iv ⟨eL p q.1 b,[]⟩ q.2)) else c7 (ey (fj ⟨eL p q.1 b,[]⟩))
  else c7 (ey (fj ⟨eL p p.aa2 b,[]⟩)):Option (jk⊕jU)).bind λG=>
  j7 (λP=>
   let D:=lu p.cq p.bZ p.bB P
   (bO (λs=>qm LC D ⟨p,[]⟩ (tP p.cq p.bZ p.bB s) (um s)) (jw D 0)).bind λy=>
    j7 (λl=>c7 (cT (nT p.cq p.bZ p.bB l) (nO l))) (λz=>let j:=lu p.cq p.bZ p.bB z;c7 (cT (aR.mk ({j.aI with bq:=(aL.mk ([]:List ay))}:aE) j.named) 0)) y)
   (λB=>c7 (cT (nT p.cq p.bZ p.bB B) (nO B))) G) λi=>∃g f,i=cT g f/\gi p e g f:=λb m=>by
   cases t:p.aa2.Out with
   |false=>
    rw[cond_false,aa];exact A b p.aa2 m c.key rfl t
   |true=>
    rw[cond_true];obtain⟨d,o,w⟩:=Zw (k:=p.aa2) (by show _<=4611686018427387904;omega);rw[o,aa]
    by_cases h:d.2=0
    .rw[aG (by rw[h];simp),aa];obtain⟨_,_,u⟩:=w.resolve_left λc=>c.1 h
     exact A b d.1 m (by rw[u];exact⟨c.key.1,c.key.2.1,c.key.2.2.1,λc=>by cases c⟩) (by rw[u]) (by rw[u])
    .rw[aC h,aa];exact ae ⟨⟨eL p d.1 b,[]⟩,d.2,rfl,.bad c h rfl⟩
 by_cases v:p.cL.State=0
 .rw[aG (by show ¬p.cL.State≠0;simp[v]),aa];exact C p.cL (.inl ⟨rfl,v⟩)
 .rw[aC v];obtain⟨d,o,w⟩:=Yc (x:=p.bM) (s:=p.cL) p.au.aa0 (h8 c.qx (by decide))
  by_cases h:d.2=0
  .refine c8 (a:=ey (fj ⟨eL p p.aa2 d.1,[]⟩)) ?_ ?_
   .refine(dL (a:=p.au.aa0) rfl).trans ?_
    refine(dL o).trans ?_
    rw[aG (by rw[h];simp)]
    rfl
   .exact C d.1 (.inr (w.resolve_left λc=>c.1 h).2)
  .refine c8 (a:=gv (iv ⟨eL p p.aa2 d.1,[]⟩ d.2)) ?_ ?_
   .refine(dL (a:=p.au.aa0) rfl).trans ?_
    refine(dL o).trans ?_
    rw[aC h]
    rfl
   .exact ae ⟨⟨eL p p.aa2 d.1,[]⟩,d.2,rfl,.bad c h rfl⟩
end
section
variable {n np:Nat}{p:aE}{e:bH}
structure tN (n np:Nat) (p:aE) (rd:aS):Prop where
 n3:n<=3
 mq:np<=64
 gq:cP p.ao
 gk:p.ao.ai.length=np
 jY:cj 0 ((p.ao.af.length:Int) -1) p.aa2.af
 OG:p.aa2.af.length<=12
 hZ:fM n np p.bw
 bne:p.bw.aA≠[]
 je:fM n np p.bq
 BV:Fit rd.ai
 OF:0<=rd.dY/\rd.dY<=10
 OH:1<=rd.dX/\rd.dX<=600
def aiU{k h:aS}{r:aT}{u:List aT}{w:Int}(d:tN n np p h){i:List Int}{b c:aL}(o:fv p.ao p.aa2.af p.au.aa0 k h r u w p.bw p.bq b c){f:dS}(C:DS r k f):Ok (A5 LC ⟨dR p b c,i⟩ f h) λB=>∃m l,B=ol ⟨dR p m l,i⟩ f h/\fv p.ao p.aa2.af p.au.aa0 k h r u w p.bw p.bq m l:=by
 obtain⟨⟨T,X⟩,Q,V⟩:=o.shape d.gk d.hZ d.bne d.je;have W:=d.gq.1;have M:Fit p.ao.ai:=by show _<=4611686018427387904;omega
 unfold A5;obtain⟨q,S,I⟩:=LG p.ao b f.Tag h.ai f.an (min f.To p.au.aa0) (T.pR d.n3 d.mq) d.BV M;refine c8 (a:=La f h ⟨dR p b c,i⟩ q.1 q.2) ?_ ?_
 .unfold uX;refine(dL (a:=p.au.aa0) rfl).trans ?_
  refine(dL S).trans rfl
 have E:∀j,fv p.ao p.aa2.af p.au.aa0 k h r u w p.bw p.bq j c->Ok ((ra LC ⟨dR p j c,i⟩).bind λR=>bif (!R) then c7 (ol ⟨dR p j c,i⟩ f h) else(mT LC ⟨dR p j c,i⟩).bind λD=>(uX LC f h ⟨dR p j c,i⟩ (ak.mk D.1 D.2) c).bind λs=>
  let H:=F7 s
  let F:=HJ s
  let x:=G2 s
  let K:=IB s
  let O:=HV s
  bif c5 (O=0) then c7 (ol (aR.mk ({x.aI with bq:=K}:aE) x.named) H F) else c7 (ol x H F)) λB=>∃m l,B=ol ⟨dR p m l,i⟩ f h/\fv p.ao p.aa2.af p.au.aa0 k h r u w p.bw p.bq m l:=λj A=>by
  refine c8 (a:=c5 (0<(c.aA.length:Int))) rfl ?_
  rw[de];refine aV (λG=>?_) (λ_=>ae ⟨j,c,rfl,A⟩)
  have L:c.aA≠[]:=λo=>by rw[o] at G;simp at G
  refine aD (CF (g:=⟨dR p j c,i⟩) d.gq d.jY (by show p.aa2.af.length<=_;have:=d.OG;omega)) λz t=>?_
  have t:ki p.ao p.aa2.af ⟨z.1,z.2⟩:=t;have U:z.1.length=p.ao.ai.length:=congrArg j6 t.pl;obtain⟨v,N,P⟩:=LG ⟨z.1,z.2⟩ c f.Tag h.ai f.an (min f.To p.au.aa0) (Q.pR d.n3 d.mq) d.BV (by show z.1.length<=4611686018427387904;omega);refine c8 (a:=La f h ⟨dR p j c,i⟩ v.1 v.2) ?_ ?_
  .unfold uX;refine(dL (a:=p.au.aa0) rfl).trans ?_
   refine(dL N).trans rfl
  show Ok (bif c5 (v.2=0) then c7 (ol ⟨dR p j v.1,i⟩ f h) else c7 (ol ⟨dR p j c,i⟩ f h)) _
  refine aV (λJ=>ae ⟨j,v.1,rfl,?_⟩) (λ_=>ae ⟨j,c,rfl,A⟩)
  exact .Lt f _ A C L t (P.resolve_right λd=>d.1 J).2
 by_cases y:q.2=0
 .refine c8 (a:=qI ⟨dR p q.1 c,i⟩) ?_ (E q.1 (.Ls f o C (I.resolve_right λd=>d.1 y).2))
  show(bif c5 (q.2=0) then _ else _)=_
  rw[aC y]
  rfl
 .refine c8 (a:=qI ⟨dR p b c,i⟩) ?_ (E b o)
  show(bif c5 (q.2=0) then _ else _)=_
  rw[aG y]
  rfl
def afb{u d:aS}{r:aT}{l:List aT}{m:Int}(c:tN n np p d){i:List Int}{b f:aL}(t:fv p.ao p.aa2.af p.au.aa0 u d r l m p.bw p.bq b f){h:Int}{a:dC}(I:h∉r.aw)(F:nc l m h d a):Ok (zg LC ⟨dR p b f,i⟩ h d a (min a.To p.au.aa0)) λA=>∃s o,A=nJ ⟨dR p s o,i⟩ h d a (min a.To p.au.aa0)/\fv p.ao p.aa2.af p.au.aa0 u d r l m p.bw p.bq s o:=by
 obtain⟨⟨U,Z⟩,S,X⟩:=t.shape c.gk c.hZ c.bne c.je;have Y:=c.gq.1;have O:Fit p.ao.ai:=by show _<=4611686018427387904;omega
 unfold zg;obtain⟨q,T,K⟩:=Sj p.ao b h d.ai a.an (min a.To p.au.aa0) ((d.dY+1)*d.dX) (U.pR c.n3 c.mq) c.BV O;refine c8 (a:=Ft h d a (min a.To p.au.aa0) q.1 q.2) ?_ ?_
 .unfold uQ;refine(dL (LV c.OF c.OH)).trans ?_
  refine(dL T).trans rfl
 have B:∀j,fv p.ao p.aa2.af p.au.aa0 u d r l m p.bw p.bq j f->Ok ((ra LC ⟨dR p j f,i⟩).bind λR=>bif (!R) then c7 (nJ ⟨dR p j f,i⟩ h d a (min a.To p.au.aa0)) else(mT LC ⟨dR p j f,i⟩).bind λJ=>(uQ LC h d a (min a.To p.au.aa0) (ak.mk J.1 J.2) f).bind λk=>
  let C:=Gy k
  let G:=Ib k
  let H:=HF k
  let E:=I2 k
  let L:=Ir k
  let V:=JK k
  bif c5 (V=0) then c7 (nJ (aR.mk ({ (dR p j f) with bq:=L}:aE) i) C G H E) else c7 (nJ ⟨dR p j f,i⟩ C G H E)) λA=>∃s o,A=nJ ⟨dR p s o,i⟩ h d a (min a.To p.au.aa0)/\fv p.ao p.aa2.af p.au.aa0 u d r l m p.bw p.bq s o:=λj y=>by
  refine c8 (a:=c5 (0<(f.aA.length:Int))) rfl ?_
  rw[de];refine aV (λD=>?_) (λ_=>ae ⟨j,f,rfl,y⟩)
  have N:f.aA≠[]:=λt=>by rw[t] at D;simp at D
  refine aD (CF (g:=⟨dR p j f,i⟩) c.gq c.jY (by show p.aa2.af.length<=_;have:=c.OG;omega)) λz w=>?_
  have w:ki p.ao p.aa2.af ⟨z.1,z.2⟩:=w;have W:z.1.length=p.ao.ai.length:=congrArg j6 w.pl;obtain⟨v,P,Q⟩:=Sj ⟨z.1,z.2⟩ f h d.ai a.an (min a.To p.au.aa0) ((d.dY+1)*d.dX) (S.pR c.n3 c.mq) c.BV (by show z.1.length<=4611686018427387904;omega);refine c8 (a:=Ft h d a (min a.To p.au.aa0) v.1 v.2) ?_ ?_
  .unfold uQ;refine(dL (LV c.OF c.OH)).trans ?_
   refine(dL P).trans rfl
  show Ok (bif c5 (v.2=0) then c7 (nJ ⟨dR p j v.1,i⟩ h d a (min a.To p.au.aa0)) else c7 (nJ ⟨dR p j f,i⟩ h d a (min a.To p.au.aa0))) _
  refine aV (λM=>ae ⟨j,v.1,rfl,?_⟩) (λ_=>ae ⟨j,f,rfl,y⟩)
  exact .Lu h a _ y I F N w (Q.resolve_right λc=>c.1 M).2
 by_cases x:q.2=0
 .refine c8 (a:=qI ⟨dR p q.1 f,i⟩) ?_ (B q.1 (.abs h a t I F (K.resolve_right λc=>c.1 x).2))
  show(bif c5 (q.2=0) then _ else _)=_
  rw[aC x]
  rfl
 .refine c8 (a:=qI ⟨dR p b f,i⟩) ?_ (B b t)
  show(bif c5 (q.2=0) then _ else _)=_
  rw[aG x]
def aa6{rs c:aS}{r:aT}{d:Nat}(f:tN n np p c){nm:List Int}{b g:aL}(l:fv p.ao p.aa2.af p.au.aa0 rs c r p.bZ (d:Int) p.bw p.bq b g){j:Int}(D:j∉r.aw)(o:p.au.aQ[d]?=c7 c)(x:∀c,c∈p.au.aQ->0<=c.cR/\c.cR<=60)(B:∀r,r∈p.bZ->Fit r.aw):Ok (Eb LC ⟨dR p b g,nm⟩ (d:Int) j) λv=>∃k i,v=mf ⟨dR p k i,nm⟩/\fv p.ao p.aa2.af p.au.aa0 rs c r p.bZ (d:Int) p.bw p.bq k i:=by
 unfold Eb;show Ok ((aj p.au.aQ (d:Int)).bind _) _
 rw[bn,o,aa];show Ok ((xp LC p.au.aQ (d:Int) j p.bZ).bind _) _
 refine aD (ag3 (rs:=p.au.aQ) (d:Int) j p.bZ x B) λq m=>?_
 have z:(bif c5 (q.2≠0) then c7 true else c7 (c5 ((q.1.length:Int)=0)):Option Bool)=c7 (c5 (q.2≠0\/(q.1.length:Int)=0)):=ew rfl;refine c8 z ?_
 refine aV (λ_=>ae ⟨b,g,rfl,l⟩) (λs=>?_)
 have A:q.2=0:=by by_cases f:q.2=0;exact f;exact absurd (.inl f) s
 have E:q.1.length≠0:=λf=>s (.inr (by omega))
 obtain⟨_,G,h,C⟩:=m.2 A;rw[dt,o] at h;injection h with h
 subst h;have F:=m.1;rw[aJ,show((q.1.length:Int) -1)=((q.1.length -1:Nat):Int) by omega,bn];have t:=c6 (show q.1.length -1<q.1.length by omega);have u:=dT (show q.1.length -1<q.1.length by omega);generalize q.1[q.1.length -1]=a at t u;rw[t,aa];refine c8 (a:=p.au.aa0) rfl ?_
 refine aV (λ_=>ae ⟨b,g,rfl,l⟩) (λ_=>?_)
 refine aD (afb f l D (C a u)) λv w=>?_
 obtain⟨k,i,rfl,y⟩:=w;exact ae ⟨k,i,rfl,y⟩
end
section
variable {n np:Nat}{p:aE}{e:bH}
def am8{j f:aS}{r:aT}{k:Nat}(u:tN n np p f)(c:List dS×Int)(y:c.1.length<=20)(t:∀a,a∈c.1->DS r j a):Ok (bO (λa:ug=>sC LC c (Q2 a) (Qd a) (R9 a)) (Cb ⟨p,[]⟩ f 0)) λm=>∃g d,m=mf ⟨dR p g d,[]⟩/\fv p.ao p.aa2.af p.au.aa0 j f r p.bZ (k:Int) p.bw p.bq g d:=by
 refine di c.1.length (λi a=>∃g d,a=Cb ⟨dR p g d,[]⟩ f (i:Int)/\fv p.ao p.aa2.af p.au.aa0 j f r p.bZ (k:Int) p.bw p.bq g d) _ (λi a s l=>?_) (λa l=>?_) _ ⟨p.bw,p.bq,rfl,.nil⟩
 .obtain⟨b,a,rfl,h⟩:=l;show Ok (sC LC c ⟨dR p b a,[]⟩ f (i:Int)) _
  unfold sC;have o:=c6 s;have q:=dT s;generalize c.1[i]=w at o q;rw[aC,bn,o,aa,aa];refine aD (aiU u h (t w q)) λm x=>?_
  obtain⟨g,d,rfl,v⟩:=x;rw[aJ];exact ae ⟨g,d,rfl,v⟩
 .obtain⟨b,a,rfl,h⟩:=l;show Ok (sC LC c ⟨dR p b a,[]⟩ f (c.1.length:Int)) _
  unfold sC;rw[aG];exact ae ⟨b,a,rfl,h⟩
def acB{l g:aS}{r:aT}{k:Nat}(B:tN n np p g)(j:List Int)(I:j.length<=1000){v u:aL}(C:fv p.ao p.aa2.af p.au.aa0 l g r p.bZ (k:Int) p.bw p.bq v u)(y:p.au.aQ[k]?=c7 g)(z:∀g,g∈p.au.aQ->0<=g.cR/\g.cR<=60)(D:∀r,r∈p.bZ->Fit r.aw)(F:Fit r.aw)(G:e.A=(k:Int)):Ok (bO (λf:uy=>uN LC j (r,0) e (Si f) (LF f)) (uZ ⟨dR p v u,[]⟩ 0)) λh=>∃c d,h=mf ⟨dR p c d,[]⟩/\fv p.ao p.aa2.af p.au.aa0 l g r p.bZ (k:Int) p.bw p.bq c d:=by
 refine di j.length (λi f=>∃c d,f=uZ ⟨dR p c d,[]⟩ (i:Int)/\fv p.ao p.aa2.af p.au.aa0 l g r p.bZ (k:Int) p.bw p.bq c d) _ (λi f E s=>?_) (λf s=>?_) _ ⟨v,u,rfl,C⟩
 .obtain⟨b,f,rfl,m⟩:=s;show Ok (uN LC j (r,0) e ⟨dR p b f,[]⟩ (i:Int)) _
  unfold uN;dsimp only;have w:=c6 E;generalize j[i]=H at w;rw[aC,bn,w,aa,contains_eq F,aa,de];have fin:∀c d,fv p.ao p.aa2.af p.au.aa0 l g r p.bZ (k:Int) p.bw p.bq c d->Ok (c7 (ey (uZ ⟨dR p c d,[]⟩ (c3 c4 ((i:Int)+1)))):Option (uy⊕rY)) λh=>match h with
   | .inl d=>∃c x,d=uZ ⟨dR p c x,[]⟩ ((i+1:Nat):Int)/\fv p.ao p.aa2.af p.au.aa0 l g r p.bZ (k:Int) p.bw p.bq c x
   | .inr h=>∃c d,h=mf ⟨dR p c d,[]⟩/\fv p.ao p.aa2.af p.au.aa0 l g r p.bZ (k:Int) p.bw p.bq c d:=λc d q=>by
   rw[aJ];exact ae ⟨c,d,rfl,q⟩
  by_cases t:H∈r.aw
  .rw[aC t,aa];exact WI (fin b f m) λh o=>by cases h <;> exact o
  .rw[aG t,G];obtain⟨h,A,c,d,rfl,q⟩:=aa6 (nm:=[]) B m t y z D;refine c8 (a:=mf ⟨dR p c d,[]⟩) ?_ ?_
   .exact(dL A).trans rfl
   .exact WI (fin c d q) λh o=>by cases h <;> exact o
 .obtain⟨b,f,rfl,m⟩:=s;show Ok (uN LC j (r,0) e ⟨dR p b f,[]⟩ (j.length:Int)) _
  unfold uN;rw[aG];exact ae ⟨b,f,rfl,m⟩
def aoV(a:dW n np p)(t:fw p.au)(W:e.abv=4):Ok (wP LC ⟨p,[]⟩ e) λB=>∃g H,B=dp g H/\gi p e g H:=by
 have m:=a.lC;have Y:=a.n3;have al:=a.kn;have aw:=a.jR;have an:p.au.cn.length=p.au.aQ.length:=t.2.2.2.2.2.1;unfold wP;dsimp only;rw[aJ,cF,aa,de];refine aV (λav=>?_) (λ_=>ae ⟨_,_,rfl,.same a (by decide)⟩)
 obtain⟨k,w⟩:∃k:Nat,e.A=(k:Int):=⟨e.A.toNat,by omega⟩;have E:k<p.cq.length:=by omega
 rw[w,bn,bn,dt];have u:=c6 (show k<p.au.cn.length by omega);generalize p.au.cn[k]=num at u;have C:=c6 E;have G:=dT E;generalize p.cq[k]=r at C G;have s:=c6 (show k<p.au.aQ.length by omega);have M:=dT (show k<p.au.aQ.length by omega);generalize p.au.aQ[k]=b at s M;have ah:=a.rX r G;have i:Fit r.aw:=by show _<=4611686018427387904;omega
 rw[u,aa];refine aV (λ_=>ae ⟨_,_,rfl,.same a (by decide)⟩) (λar=>?_)
 rw[C,aa,aa,WJ i]
 by_cases o:kb r
 rotate_left
 .rw[if_neg o,aa];exact ae ⟨_,_,rfl,.same a (by decide)⟩
 rw[if_pos o,aa,aG (by simp)];rw[anb o,aa,aG (by simp)];dsimp only;obtain⟨j,ad,N⟩:=abN (x:=p.cW) (r:=r) m.il m.io i;rw[ad,aa];refine aV (λd=>ae ⟨_,_,rfl,.bad a d rfl⟩) (λd=>?_)
 have ap:=a.uB;rw[dm (by decide) (by omega),aa];have ai:(p.bZ++[r]).length=p.bZ.length+1:=by simp
 rw[aJ,l8 (by omega) (by omega) (by omega),aa];generalize ak:max 0 (((p.bZ++[r]).length:Int) -60)=f;have Z:((p.bZ++[r]).drop f.toNat).take ((((p.bZ++[r]).length:Int)).toNat -f.toNat)=(p.bZ++[r]).drop f.toNat:=hP (by rw[eH];omega);rw[Z];have I:∀b,b∈p.au.aQ->0<=b.cR/\b.cR<=60:=λb R=>(t.1.2.2 b R).2.2.2.2
 obtain⟨B,X,F⟩:=Xo (l:=p.au.aQ) (r:=r) i I;rw[X,aa];refine aV (λd=>ae ⟨_,_,rfl,.bad a d rfl⟩) (λd=>?_)
 obtain⟨_,S,ac,T⟩:=F.2 (Decidable.not_not.1 d);rw[bn,s,aa];have A:=t.1.2.2 b M;have au:=t.1.1.1;have P:tN n np ({p with bZ:=(p.bZ++[r]).drop f.toNat,cW:=j.1}:aE) b:=⟨Y.2,a.mq,a.gq,a.gk,a.jY,by have:=a.key.1.1;show p.aa2.af.length<=12;omega,a.hZ,a.bne,a.je,by have:=A.2.1.len (by omega);show b.ai.length<=4611686018427387904;omega,A.2.2.2.1,A.2.2.1⟩;refine aD (am8 (k:=k) P B F.1 T) λz v=>?_
 obtain⟨h,am,rfl,K⟩:=v;obtain⟨⟨af,D⟩,ao,ax⟩:=K.shape a.gk a.hZ a.bne a.je;have J:h.aA[0]?=c7 (h.aA[0]'(hB.2 D)):=c6 _;have L:=dT (hB.2 D);generalize h.aA[0]'(hB.2 D)=y at J L;have aq:=(af.mX y L).2;show Ok ((aj h.aA 0).bind λU=>(cc LC U.aw).bind _) _
 rw[show aj h.aA 0=c7 y from J,aa,bV (cX (n:=3) (by omega) (by decide)),aa];refine aD (acB (k:=k) P y.aw (by omega) K s I (λq c=>?_) i w) λz v=>?_
 .have:q∈p.bZ++[r]:=h6 c;rcases ec.1 this with c |c
  .have:=a.rW q c;show _<=4611686018427387904;omega
  .rw[e4] at c;rw[c];exact i
 obtain⟨Q,O,rfl,ag⟩:=v;have ab:=m.il;have V:=m.io;refine ae ⟨⟨{p with bZ:=(p.bZ++[r]).drop f.toNat,cW:=j.1,bw:=Q,bq:=O},[]⟩,0,rfl,.lP rfl (.JE k S b r num _ j.1 Q O W w u (by omega) C o s ac ⟨_,rfl⟩ ?_ ⟨?_,?_⟩ ag)⟩
 .rw[eH];omega
 .show j.1.dl.length<=_;rw[N.1];exact ab
 .show j.1.dr.length<=_;rw[N.2.1];exact V
def oP.mD{x:aB}{a:Int}{u:aE}(h:dW n np p)(C:ny x)(E:x.ao=cY p.ao a)(y:x.aN.length=n)(o:x.aQ=p.au.aQ)(B:x.bp.length=x.aQ.length)(G:oP {p with au:=x} a u):dW n np u:=by
 obtain⟨b,s,fl,sm,D,rfl,k,_,F,t,d,c⟩:=G.ex;have l:=uF p.ao a;have A:fM n np b:=h.hZ.renew (m:=cY p.ao a) h.gk t;refine {n3:=h.n3,kN:=C,fN:=E,gq:=F,gk:=h.gk,iz:=y,jR:=by show x.aQ.length<=3;rw[o];exact h.jR,kj:=B,uD:=?_,kI:=h.kI,qx:=h.qx,kn:=by show p.cq.length=x.aQ.length;rw[o];exact h.kn,rX:=h.rX,uB:=h.uB,rW:=h.rW,int:=h.int,hZ:=A,bne:=?_,je:=?_,pq:=?_,key:=h.key,jY:=?_,iI:=h.iI,log:=h.log,uC:=h.uC}
 .show fl.length=(cY p.ao a).af.length
  rw[l];have k:fl.length=p.cI.length:=k;rw[k];exact h.uD
 .show b.aA≠[]
  intro w;have:=t.1;rw[w] at this;exact h.bne (gx.1 this.symm)
 .rcases d with⟨_,d⟩ |⟨_,d,c⟩
  .show fM n np s
   rw[d];exact h.je
  .exact h.je.renew (m:=D) (by rw[d.pl];exact h.gk) c
 .rcases c with⟨c,j⟩ |⟨_,j⟩
  .show sm.an=[]\/sm.an.length=np
   rw[j];exact .inl c
  .exact .inr (by show sm.an.length=np;rw[j];exact h.gk)
 .show cj 0 (((cY p.ao a).af.length:Int) -1) p.aa2.af
  rw[l];exact h.jY
def gC.mD{C:aE}(h:dW n np p)(A:gC p e C):dW n np C:=by
 have ht:=h.kN;cases A with
 |wait _ _ _ _=>exact {h with kN:={ht with pe:=by show(p.au.aN.map _).length<=_;rw[e5];exact ht.pe},fN:=h.fN,iz:=by show(p.au.aN.map _).length=n;rw[e5];exact h.iz,jR:=h.jR,kj:=h.kj,kn:=h.kn}
 |walk L _ _ _ _ _ _ _ _=>exact {h with kN:={ht with pe:=by show(p.au.aN.set _ _).length<=_;rw[e0];exact ht.pe},fN:=h.fN,iz:=by show(p.au.aN.set _ _).length=n;rw[e0];exact h.iz,jR:=h.jR,kj:=h.kj,kn:=h.kn}
 |look k rd Y r _ _ u=>
  obtain⟨row,U,yp,a,l,m,o,E,j,y,F,V,K,t⟩:=u.ex;rw[t];have M:=ht.mr row (fC m);refine {h with kN:={ht with nu:=by show(p.au.cn.set _ _).length<=_;rw[e0];exact ht.nu,lo:=by show(p.au.cf.set _ _).length<=_;rw[e0];exact ht.lo,mi:=by show(p.au.bp.set _ _).length<=_;rw[e0];exact ht.mi,mr:=λq c=>?_},fN:=h.fN,iz:=h.iz,jR:=h.jR,kj:=by show(p.au.bp.set _ _).length=_;rw[e0];exact h.kj,kn:=by show(p.cq.set _ _).length=_;rw[e0];exact h.kn,rX:=λq c=>?_}
  .rcases ez c with c |rfl
   .exact ht.mr q c
   .show _<=_;rw[j.len];exact M
  .rcases ez c with c |rfl
   .exact h.rX q c
   .rw[K,uP];have:=j.tl;have:=h.iz;have:=h.n3;omega
 |JE k rs rd r num A x b s _ _ _ _ Z J _ _ P O t Q=>
  obtain⟨⟨R,S⟩,N,X⟩:=Q.shape h.gk h.hZ h.bne h.je;refine {h with uB:=O,rW:=λq c=>?_,int:=t,hZ:=R,bne:=S,je:=N}
  obtain⟨d,rfl⟩:=P;rcases ec.1 (h6 c) with c |c
  .exact h.rW q c
  .rw[e4] at c;have:=J.2.2.2.1;rw[c];omega
 |swap x b s L aa _ _ _ _ _ _ _ _ t w j=>
  rw[t];have B:=h.iz;have D:=h.gk;rw[B,D] at w;have sl:∀{l:List Int},(gL e.A e.B l).length=l.length:=by
   intro l;unfold gL
   split
   .rw[e0,e0]
   .rfl
  refine {h with kN:={ht with tg:=by show(gL _ _ _).length<=_;rw[sl];exact ht.tg,mi:=by show(p.au.bp.map _).length<=_;rw[e5];exact ht.mi,mr:=λq c=>?_},fN:=h.fN,iz:=h.iz,jR:=h.jR,kj:=by show(p.au.bp.map _).length=_;rw[e5];exact h.kj,kn:=h.kn,hZ:=h.hZ.Np w,bne:=?_,je:=?_}
  .obtain⟨G,H,rfl⟩:=j8.1 c;show _<=_;rw[sl];exact ht.mr G H
  .obtain⟨l,m,o,_⟩:=w.ex;exact m.e o
  .rcases j with⟨_,j⟩ |⟨W,_,_,j⟩
   .show fM n np s;rw[j];exact h.je
   .rw[B,D] at j;exact h.je.Np j
 |JD sm al _ j I _=>exact {h with pq:=.inr (by rw[j];exact h.gk),iI:=I.1}
 |guard k _ m o E _ y _ _=>exact {h with key:=y,jY:=by show cj 0 _ k.af;rw[m];exact h.jY}
 |shut k s _ m o E y _ F _ _ j=>
  rw[h.iz,h.gk] at j;exact {h with key:=F,jY:=by show cj 0 _ k.af;rw[m];exact h.jY,je:=h.hZ.shut j}
 |xX st _ _ _=>exact {h with}
 |xZ _ _ T _ _ u=>exact oP.mD (x:={p.au with ao:=cY p.au.ao e.A,aN:=p.au.aN.map (n8 e.A)}) (a:=e.A) h {ht with rd:=by show(cY p.au.ao e.A).af.length<=_;rw[uF];exact ht.rd,pe:=by show(p.au.aN.map _).length<=_;rw[e5];exact ht.pe} (by show cY p.au.ao e.A=_;rw[h.fN]) (by show(p.au.aN.map _).length=n;rw[e5];exact h.iz) rfl h.kj u
 |xY _ al q _ _ _ T _ _ u=>exact oP.mD (x:={p.au with ao:=cY p.au.ao e.A,aN:=p.au.aN.map (n8 e.A)}) (a:=e.A) h {ht with rd:=by show(cY p.au.ao e.A).af.length<=_;rw[uF];exact ht.rd,pe:=by show(p.au.aN.map _).length<=_;rw[e5];exact ht.pe} (by show cY p.au.ao e.A=_;rw[h.fN]) (by show(p.au.aN.map _).length=n;rw[e5];exact h.iz) rfl h.kj u
 |JF k st _ m o _ _ _=>exact {h with key:=o,jY:=by show cj 0 _ k.af;rw[m];exact h.jY,je:=.nil}
end
def gC.log{p c:aE}{e:bH}(h:gC p e c):c.bB=p.bB:=by
 cases h with
 |xZ _ _ _ _ _ a=>obtain⟨b,s,fl,sm,d,rfl,_⟩:=a.ex;rfl
 |xY _ _ _ _ _ _ _ _ _ a=>obtain⟨b,s,fl,sm,d,rfl,_⟩:=a.ex;rfl
 |_=>rfl
inductive oA (p:aE) (e:bH):aE->Int->Prop
 |no (c:Int):c=2\/c=6->oA p e p c
 |bad (al:List cy) (nm:List Int) (c:Int):c≠0->gj p.bS al->nm.length<=768->p.bB.length<200->fw p.au->oA p e {p with bS:=al,bB:=p.bB++[⟨e,p.au.aa0,c,nm⟩]} c
 |zI (q:aE) (nm:List Int):gC p e q->nm.length<=768->p.bB.length<200->fw p.au->oA p e {q with bB:=p.bB++[⟨e,p.au.aa0,0,nm⟩]} 0
def acG{a:Int}(b:1<=a/\a<=13):lK a=c7 (102+a.toNat):=by
 unfold lK;rw[aC b.1,aC b.2]
def akh{a:Int}(d:¬(1<=a/\a<=13)):lK a=hD:=by
 unfold lK
 by_cases b:1<=a
 .rw[aC b,aG (λc=>d ⟨b,c⟩)]
 .rw[aG b]
def J6(p:aE)(a:bH):Prop:=a.abv=3->0<=a.A/\a.A<max 1 (p.au.aQ.length:Int)
def Wq{z y:Nat}{p:aE}{e:bH}(j:dW z y p)(x:J6 p e):Ok (w7 LC p e) λr=>oA p e r.1 r.2:=by
 have t:=j.lC;unfold w7;refine aV (λ_=>ae (.no 2 (.inl rfl))) (λD=>?_)
 obtain⟨v,A,C⟩:=U4 j;rw[A,aa];cases v with
 |false=>exact ae (.no 6 (.inr rfl))
 |true=>
  have n:=C rfl;rw[ej,cond_false,aiT t,aa];dsimp only;rw[show SD (IW p)=p from rfl];refine c8 (a:=lK e.abv) rfl ?_
  have k:∀{q:Option qz},Ok q (λb=>∃g c,b=dp g c/\gi p e g c)->Ok (q.bind λb=>c7 (dp (iS b) (iJ b))) λb=>∃g c,b=dp g c/\gi p e g c:=λ{q} j=>aD j λb i=>by
   obtain⟨g,c,rfl,f⟩:=i;exact ae ⟨g,c,rfl,f⟩
  refine aD (Q:=λb:qz=>∃g c,b=dp g c/\gi p e g c) ?_ λb i=>?_
  .by_cases h:1<=e.abv/\e.abv<=13
   rotate_left
   .rw[akh h];exact ae ⟨⟨p,[]⟩,55,rfl,.same j (by decide)⟩
   rw[acG h];have:e.abv=1\/e.abv=2\/e.abv=3\/e.abv=4\/e.abv=5\/e.abv=6\/e.abv=7\/e.abv=8\/e.abv=9\/e.abv=10\/e.abv=11\/e.abv=12\/e.abv=13:=by omega
   rcases this with h |h |h |h |h |h |h |h |h |h |h |h |h <;> rw[h]
   .show Ok (((xR LC (aR.mk p ([]:List Int)) e).bind λd=>c7 (dp (fR d) (fT d))).bind λb=>c7 (dp (iS b) (iJ b))) _
    exact k (aD (Wo j h) λb i=>by obtain⟨g,c,rfl,f⟩:=i;exact ae ⟨g,c,rfl,f⟩)
   .show Ok (((yV LC (aR.mk p ([]:List Int)) e).bind λd=>c7 (dp (fR d) (fT d))).bind λb=>c7 (dp (iS b) (iJ b))) _
    exact k (aD (aku j h) λb i=>by obtain⟨g,c,rfl,f⟩:=i;exact ae ⟨g,c,rfl,f⟩)
   .show Ok (((yT LC (aR.mk p ([]:List Int)) e).bind λd=>c7 (dp (fR d) (fT d))).bind λb=>c7 (dp (iS b) (iJ b))) _
    exact k (aD (anv j h (x h).1 (x h).2) λb i=>by obtain⟨g,c,rfl,f⟩:=i;exact ae ⟨g,c,rfl,f⟩)
   .show Ok (((wP LC (aR.mk p ([]:List Int)) e).bind λd=>c7 (dp (iS d) (iJ d))).bind λb=>c7 (dp (iS b) (iJ b))) _
    exact k (aD (aoV j n h) λb i=>by obtain⟨g,c,rfl,f⟩:=i;exact ae ⟨g,c,rfl,f⟩)
   .show Ok (((yb LC (aR.mk p ([]:List Int)) e).bind λd=>c7 (dp (fR d) (fT d))).bind λb=>c7 (dp (iS b) (iJ b))) _
    exact k (aD (amp j h) λb i=>by obtain⟨g,c,rfl,f⟩:=i;exact ae ⟨g,c,rfl,f⟩)
   .show Ok (((xy LC (aR.mk p ([]:List Int)) e).bind λd=>c7 (dp (fR d) (fT d))).bind λb=>c7 (dp (iS b) (iJ b))) _
    exact k (aD (aiX j h) λb i=>by obtain⟨g,c,rfl,f⟩:=i;exact ae ⟨g,c,rfl,f⟩)
   .show Ok (((vA LC (aR.mk p ([]:List Int)) e).bind λd=>c7 (dp (fR d) (fT d))).bind λb=>c7 (dp (iS b) (iJ b))) _
    exact k (aD (anG j h) λb i=>by obtain⟨g,c,rfl,f⟩:=i;exact ae ⟨g,c,rfl,f⟩)
   .show Ok (((vm LC (aR.mk p ([]:List Int)) e).bind λd=>c7 (dp (fR d) (fT d))).bind λb=>c7 (dp (iS b) (iJ b))) _
    exact k (aD (Zi j h) λb i=>by obtain⟨g,c,rfl,f⟩:=i;exact ae ⟨g,c,rfl,f⟩)
   .show Ok (((wR LC (aR.mk p ([]:List Int)) e).bind λd=>c7 (dp (fR d) (fT d))).bind λb=>c7 (dp (iS b) (iJ b))) _
    exact k (aD (amE j h) λb i=>by obtain⟨g,c,rfl,f⟩:=i;exact ae ⟨g,c,rfl,f⟩)
   .show Ok (((yu LC (aR.mk p ([]:List Int)) e).bind λd=>c7 (dp (fR d) (fT d))).bind λb=>c7 (dp (iS b) (iJ b))) _
    exact k (aD (aeC j h) λb i=>by obtain⟨g,c,rfl,f⟩:=i;exact ae ⟨g,c,rfl,f⟩)
   .show Ok (((tM LC (aR.mk p ([]:List Int)) e).bind λd=>c7 (dp (fR d) (fT d))).bind λb=>c7 (dp (iS b) (iJ b))) _
    exact k (aD (agT j h) λb i=>by obtain⟨g,c,rfl,f⟩:=i;exact ae ⟨g,c,rfl,f⟩)
   .show Ok (((xQ LC (aR.mk p ([]:List Int)) e).bind λd=>c7 (dp (fR d) (fT d))).bind λb=>c7 (dp (iS b) (iJ b))) _
    exact k (aD (af5 j n h) λb i=>by obtain⟨g,c,rfl,f⟩:=i;exact ae ⟨g,c,rfl,f⟩)
   .show Ok (((xE LC (aR.mk p ([]:List Int)) e).bind λd=>c7 (dp (fR d) (fT d))).bind λb=>c7 (dp (iS b) (iJ b))) _
    exact k (aD (YJ j h) λb i=>by obtain⟨g,c,rfl,f⟩:=i;exact ae ⟨g,c,rfl,f⟩)
  .obtain⟨g,c,rfl,f⟩:=i;rw[show iS (dp g c)=g from rfl,show iJ (dp g c)=c from rfl];have s:p.bB.length<200:=by omega
   by_cases l:c=0
   .rw[aG (by rw[l];simp),aa];show Ok ((bj 72 g.aI.bB ([(dK.mk e p.au.aa0 c g.named)]:List dK)).bind λo=>c7 (({g.aI with bB:=o}:aE),c)) _
    have w:=f.ok l;rw[w.log,dm (by decide) (by omega),aa,l];exact ae (.zI g.aI g.named w f.nm s n)
   .rw[aC l,abE t,aa];have fin:∀m,gj p.bS m->Ok ((bj 72 p.bB ([(dK.mk e p.au.aa0 c g.named)]:List dK)).bind λo=>c7 (({p with bS:=m,bB:=o}:aE),c)) λr=>oA p e r.1 r.2:=λm B=>by
     rw[dm (by decide) (by omega),aa];exact ae (.bad m g.named c l B f.nm s n)
    by_cases u:c=46
    .refine c8 (a:=lR {p with bS:=g.aI.bS}) ?_ (fin _ (f.iI l))
     rw[aC u,aa]
     rfl
    .refine c8 (a:=lR p) ?_ (fin p.bS (gj.refl j.iI))
     rw[aG u,aa]
     rfl
def oA.mD{n np:Nat}{p l:aE}{e:bH}{c:Int}(h:dW n np p)(u:oA p e l c):dW n np l:=by
 have lg:∀{q:aE} {x:dK},dW n np q->p.bB.length<200->x.ll.length<=768->dW n np {q with bB:=p.bB++[x]}:=by
  intro q x m y o;have a1:(p.bB++[x]).length<=200:=by rw[ea];simp;omega
  have s:∀d,d∈p.bB++[x]->d.ll.length<=768:=by
   intro d a;rcases ec.1 a with a |a
   .exact h.uC d a
   .rw[e4] at a;rw[a];exact o
  exact {m with log:=a1,uC:=s}
 cases u with
 |no c _=>exact h
 |bad al nm c _ w j k _=>exact lg (q:={p with bS:=al}) {h with iI:=w.1} k j
 |zI q nm t j k _=>exact lg (t.mD h) k j
def DI(l:List Int)(b:List Int)(a:Int):Prop:=b=l/\0<=a/\a<=400
def DI.init{l:List Int}:DI l l 0:=⟨rfl,dk _,by decide⟩
section
variable {l:List Int}
def lW(p:l.length<=400){d:bD}(h:DI l d.L d.At)(n:Int)(m:n<=1000000):Ok (eO LC d n) λr=>DI l r.1 r.2.1/\0<=r.2.2/\(r.2.2<n\/r.2.2=0):=by
 obtain⟨b,a,i⟩:=h;unfold eO;refine aV (λ_=>ae ⟨⟨b,a,i⟩,dk _,.inr rfl⟩) (λg=>?_)
 rw[b] at g⊢;rw[aJ (n:=d.At+1),show d.At+1 -1=d.At by omega,aJ,jF 0 a (by omega),aa];generalize l.getD d.At.toNat 0=c;refine aD (Q:=λr:Int=>0<=r/\(r<n\/r=0)) ?_ λr j=>ae ⟨⟨rfl,by dsimp only;omega,by dsimp only;omega⟩,j⟩
 unfold Ie;refine aV (λ_=>ae ⟨dk _,.inr rfl⟩) (λk=>?_)
 rw[D7 (by omega),aa];have f:=Int.tmod_lt_of_pos c (show 0<n by omega);have o:=Int.lt_tmod_of_pos c (show 0<n by omega);refine aV (λe=>?_) (λe=>ae ⟨by omega,.inl f⟩)
 rw[aJ];exact ae ⟨by omega,.inl (by omega)⟩
def ir(f:l.length<=400){d:bD}(c:DI l d.L d.At)(a:Int)(g:1<=a)(e:a<=1000000):Ok (eO LC d a) λr=>DI l r.1 r.2.1/\0<=r.2.2/\r.2.2<a:=WI (lW f c a e) λr b=>⟨b.1,b.2.1,by have:=b.2.2;omega⟩
def p9(f:l.length<=400){d:bD}(b:DI l d.L d.At)(a:Int)(c:a<=1000000):Ok (mK LC d a) λr=>DI l r.1 r.2.1:=by
 unfold mK;exact aD (lW f b a c) λr e=>ae e.1
def iM(g:l.length<=400){d:bD}(e:DI l d.L d.At)(vs:List Int)(i:1<=vs.length)(h:vs.length<=1000):Ok (gQ LC d vs) λr=>DI l r.1 r.2.1/\r.2.2∈vs:=by
 unfold gQ;refine aD (ir g e (vs.length:Int) (by omega) (by omega)) λr c=>?_
 have a:vs[r.2.2.toNat]?=c7 (vs[r.2.2.toNat]'(by omega)):=c6 _;have b:vs[r.2.2.toNat]'(by omega)∈vs:=dT _;generalize vs[r.2.2.toNat]'(by omega)=f at a b;rw[show aj vs r.2.2=c7 f by unfold aj;rw[if_pos c.2.1];exact a,aa];exact ae ⟨c.1,b⟩
def adN(v:l.length<=400)(k:Nat)(C:k<=7){w:List Int}{m:Int}(A:DI l w m):Ok (bO (λa:List Int×Int×List bP×List aZ×Int=>Bt LC (k:Int) (bD.mk a.1 a.2.1) (ak.mk a.2.2.1 a.2.2.2.1) a.2.2.2.2) (w,m,[],[],0)) λc=>DI l c.1 c.2.1/\c.2.2.1.length=k/\(∀p,p∈c.2.2.1->-100<=p.eU/\p.eU<=0)/\c.2.2.2=[]:=by
 refine di k (λi a=>a.2.2.2.2=(i:Int)/\DI l a.1 a.2.1/\a.2.2.1.length=i/\(∀p,p∈a.2.2.1->-100<=p.eU/\p.eU<=0)/\a.2.2.2.1=[]) _ (λi a B o=>?_) (λa o=>?_) _ ⟨rfl,A,rfl,(λp e=>by cases e),rfl⟩
 .obtain⟨b,m,t,y,z⟩:=a;obtain⟨rfl,g,f,h,j⟩:=o;dsimp only at g f h j⊢;unfold Bt
  try dsimp only
  rw[aC];refine aD (Q:=λc:List Int×Int×List bP=>DI l c.1 c.2.1/\c.2.2.length=i+1/\∀p,p∈c.2.2->-100<=p.eU/\p.eU<=0) ?_ λc n=>?_
  .refine aD (ir v g 4 (by decide) (by decide)) λr u=>?_
   have s:∀b:Bool,∀p,p∈t++[bP.mk (c3 c4 ((-10)*r.2.2)) b]->-100<=p.eU/\p.eU<=0:=λb p e=>by
    rcases ec.1 e with e |e
    .exact h p e
    .rw[e4] at e;rw[e,aJ];dsimp only;omega
   refine aV (λ_=>?_) (λ_=>?_)
   .rw[dm (by decide) (by omega),aa];exact ae ⟨u.1,by simp[f],s _⟩
   .refine aD (p9 v (d:=⟨r.1,r.2.1⟩) u.1 6 (by decide)) λq x=>?_
    rw[dm (by decide) (by omega),aa];exact ae ⟨x,by simp[f],s _⟩
  .rw[aJ];exact ae ⟨rfl,n.1,n.2.1,n.2.2,j⟩
 .obtain⟨b,m,t,y,z⟩:=a;obtain⟨rfl,g,f,h,j⟩:=o;dsimp only at g f h j⊢;unfold Bt
  try dsimp only
  rw[aG];exact ae ⟨g,f,h,j⟩
def Mv{c:Nat}{d:List aZ}{r:aZ}(e:∀r,r∈d->jx c r)(f:jx c r):∀b,b∈d++[r]->jx c b:=λb a=>by
 rcases ec.1 a with a |a
 .exact e b a
 .rw[e4] at a;rw[a];exact f
def adQ(o:l.length<=400)(n:Nat)(C:2<=n/\n<=7){t:List Int}{j:Int}{ps:List bP}(w:DI l t j):Ok (bO (λa:List Int×Int×List bP×List aZ×Int=>By LC (n:Int) (bD.mk a.1 a.2.1) (ak.mk a.2.2.1 a.2.2.2.1) a.2.2.2.2) (t,j,ps,[],1)) λg=>DI l g.1 g.2.1/\g.2.2.1=ps/\g.2.2.2.length=n -1/\∀r,r∈g.2.2.2->jx n r:=by
 refine di (n -1) (λi a=>a.2.2.2.2=((i+1:Nat):Int)/\DI l a.1 a.2.1/\a.2.2.1=ps/\a.2.2.2.1.length=i/\∀r,r∈a.2.2.2.1->jx n r) _ (λi a B m=>?_) (λa m=>?_) _ ⟨rfl,w,rfl,rfl,λp z=>by cases z⟩
 .obtain⟨b,j,y,u,v⟩:=a;obtain⟨rfl,e,rfl,f,h⟩:=m;dsimp only at e f h⊢;unfold By
  try dsimp only
  rw[aC];refine aD (ir o e (min ((i+1:Nat):Int) 2) (by omega) (by omega)) λr x=>?_
  refine aD (iM o (d:=⟨r.1,r.2.1⟩) x.1 [11,59,119,4] (by decide) (by decide)) λc q=>?_
  refine aD (iM o (d:=⟨c.1,c.2.1⟩) q.1 [9,3,19] (by decide) (by decide)) λk s=>?_
  have A:4<=c.2.2/\c.2.2<=119:=by have:=q.2;simp at this;omega
  have D:3<=k.2.2/\k.2.2<=19:=by have:=s.2;simp at this;omega
  rw[dm (by decide) (by omega),aa,aJ (n:=((i+1:Nat):Int) -1) (by omega) (by omega),aJ (n:=((i+1:Nat):Int) -1 -r.2.2) (by omega) (by omega),aJ (n:=1+c.2.2),aJ (n:=1+k.2.2),aJ];refine ae ⟨by dsimp only;omega,s.1,rfl,by simp[f],Mv h ⟨?_,?_,?_,?_⟩⟩
  .dsimp only;omega
  .dsimp only;omega
  .dsimp only;omega
  .dsimp only;omega
 .obtain⟨b,j,y,u,v⟩:=a;obtain⟨rfl,e,rfl,f,h⟩:=m;dsimp only at e f h⊢;unfold By
  try dsimp only
  rw[aG];exact ae ⟨e,rfl,f,h⟩
def Wc(e:l.length<=400)(n:Nat)(K:2<=n/\n<=7){v:List Int}{k:Int}{ps:List bP}{rs:List aZ}{h:Int}(B:DI l v k)(F:0<=h/\h<=1000)(p:1<=rs.length/\rs.length<=10)(A:∀r,r∈rs->jx n r):Ok (bO (λa:List Int×Int×List bP×List aZ×Int=>HR LC (n:Int) (bD.mk a.1 a.2.1) (ak.mk a.2.2.1 a.2.2.2.1) a.2.2.2.2) (v,k,ps,rs,h)) λc=>DI l c.1 c.2.1/\c.2.2.1=ps/\(1<=c.2.2.2.length/\c.2.2.2.length<=10)/\∀r,r∈c.2.2.2->jx n r:=by
 refine oa (λa=>(0<=a.2.2.2.2/\a.2.2.2.2<=h)/\DI l a.1 a.2.1/\a.2.2.1=ps/\(1<=a.2.2.2.1.length/\a.2.2.2.1.length<=10)/\∀r,r∈a.2.2.2.1->jx n r) (λa=>a.2.2.2.2.toNat) _ (λa z=>?_) _ ⟨⟨F.1,dk _⟩,B,rfl,p,A⟩
 obtain⟨b,k,D,rs,i⟩:=a;obtain⟨h0,m,rfl,o,j⟩:=z;dsimp only at h0 m o j⊢;unfold HR
 try dsimp only
 have y:(bif c5 (0<i) then c7 (c5 ((rs.length:Int)<10)) else c7 false)=c7 (c5 (0<i/\(rs.length:Int)<10)):=fm rfl;refine c8 y ?_
 refine aV (λJ=>?_) (λ_=>ae ⟨m,rfl,o,j⟩)
 refine aD (ir e m (n:Int) (by omega) (by omega)) λr p=>?_
 refine aD (ir e (d:=⟨r.1,r.2.1⟩) p.1 (n:Int) (by omega) (by omega)) λw x=>?_
 refine aD (iM e (d:=⟨w.1,w.2.1⟩) x.1 [11,59,199] (by decide) (by decide)) λg t=>?_
 refine aD (iM e (d:=⟨g.1,g.2.1⟩) t.1 [9,3] (by decide) (by decide)) λf u=>?_
 refine aD (ir e (d:=⟨f.1,f.2.1⟩) u.1 5 (by decide) (by decide)) λs E=>?_
 refine aD (p9 e (d:=⟨s.1,s.2.1⟩) E.1 6 (by decide)) λH C=>?_
 have G:11<=g.2.2/\g.2.2<=199:=by have:=t.2;simp at this;omega
 have L:3<=f.2.2/\f.2.2<=9:=by have:=u.2;simp at this;omega
 refine aD (Q:=λc:List bP×List aZ=>c.1=D/\(1<=c.2.length/\c.2.length<=10)/\∀r,r∈c.2->jx n r) ?_ λc q=>?_
 .refine aV (λI=>?_) (λ_=>ae ⟨rfl,o,j⟩)
  rw[dm (by decide) (by omega),aa,aJ (n:=1+g.2.2),aJ (n:=1+f.2.2)];refine ae ⟨rfl,by simp;omega,Mv j ⟨?_,?_,?_,?_⟩⟩
  .dsimp only;omega
  .dsimp only;omega
  .dsimp only;omega
  .dsimp only;omega
 .rw[aJ];exact ae ⟨⟨by dsimp only;omega,C,q.1,q.2⟩,by dsimp only;omega⟩
structure CJ (m:ak):Prop where
 ok:cP m
 np:2<=m.ai.length/\m.ai.length<=7
 nr:1<=m.af.length/\m.af.length<=10
def amM(e:l.length<=400)(t:DI l l 0):Ok (zN LC ⟨l,0⟩) λr=>DI l r.1 r.2.1/\CJ r.2.2:=by
 unfold zN;refine aD (ir e (d:=⟨l,0⟩) t 6 (by decide) (by decide)) λr u=>?_
 refine aD (Q:=λf:Int=>2<=f/\f<=7) ?_ λf w=>?_
 .refine aV (λ_=>ae (by decide)) (λ_=>?_)
  rw[aJ];exact ae (by omega)
 obtain⟨b,rfl⟩:∃b:Nat,f=(b:Int):=⟨f.toNat,by omega⟩;refine aD (adN e b (by omega) u.1) λk h=>?_
 have s:k.2.2.2=[]:=h.2.2.2;rw[s];refine aD (adQ e b (by omega) (ps:=k.2.2.1) h.1) λi g=>?_
 refine aD (ir e (d:=⟨i.1,i.2.1⟩) g.1 4 (by decide) (by decide)) λx v=>?_
 refine aD (Wc e b (by omega) (ps:=i.2.2.1) (rs:=i.2.2.2) v.1 (by omega) (by have:=g.2.2.1;omega) g.2.2.2) λa c=>?_
 have m:a.2.2.1=k.2.2.1:=c.2.1.trans g.2.1;have o:a.2.2.1.length=b:=by rw[m];exact h.2.1
 refine ae ⟨c.1,⟨by show a.2.2.1.length<=64;omega,by show a.2.2.2.length<=128;have:=c.2.2.1;omega,λp j=>?_,λq n=>?_⟩,by show 2<=a.2.2.1.length/\a.2.2.1.length<=7;omega,c.2.2.1⟩
 .have j:p∈a.2.2.1:=j;rw[m] at j;have:=h.2.2.1 p j;omega
 .show jx a.2.2.1.length q
  rw[o];exact c.2.2.2 q n
def apv(y:l.length<=400)(g:Nat)(B:g<=64){d:bD}(w:DI l d.L d.At):Ok (A9 LC d (g:Int)) λr=>DI l r.1 r.2.1/\cj 0 ((g:Int) -1) r.2.2:=by
 unfold A9;refine aD (Q:=λe:List Int×Int×List Int=>DI l e.1 e.2.1/\cj 0 ((g:Int) -1) e.2.2) ?_ λe m=>ae m
 refine di g (λi c=>c.2.2.2=(i:Int)/\DI l c.1 c.2.1/\c.2.2.1.length<=i/\cj 0 ((i:Int) -1) c.2.2.1) _ (λi c A o=>?_) (λc o=>?_) _ ⟨rfl,w,ga _,cj.nil⟩
 .obtain⟨b,s,a,u⟩:=c;obtain⟨rfl,h,k,f⟩:=o;dsimp only at h k f⊢;unfold HH
  try dsimp only
  rw[aC];refine aD (ir y (d:=⟨b,s⟩) h 3 (by decide) (by decide)) λr x=>?_
  refine aD (Q:=λe:List Int=>e.length<=i+1/\cj 0 (((i+1:Nat):Int) -1) e) ?_ λe m=>?_
  .refine aV (λ_=>?_) (λ_=>ae ⟨by omega,λq j=>?_⟩)
   .rw[dm (by decide) (by omega),aa];refine ae ⟨by simp;omega,λq j=>?_⟩
    simp only[ea,hU] at j
    by_cases t:q<a.length
    .have:=f q t;have n:(a++[(i:Int)]).getD q 0=a.getD q 0:=by rw[dd,e6 t,dd]
     have p:(a++[(i:Int)]).getD (q -1) 0=a.getD (q -1) 0:=by rw[dd,e6 (by omega),dd]
     rw[n,p];exact⟨this.1,by omega,this.2.2⟩
    .have v:q=a.length:=by omega
     have n:(a++[(i:Int)]).getD q 0=(i:Int):=by rw[dd,v,fe (ga _)];simp
     rw[n];refine⟨by omega,by omega,λz=>?_⟩
     have:=f (q -1) (by omega);have p:(a++[(i:Int)]).getD (q -1) 0=a.getD (q -1) 0:=by rw[dd,e6 (by omega),dd]
     rw[p];omega
   .have:=f q j;exact⟨this.1,by omega,this.2.2⟩
  .rw[aJ];exact ae ⟨rfl,x.1,m⟩
 .obtain⟨b,s,a,u⟩:=c;obtain⟨rfl,h,k,f⟩:=o;dsimp only at h k f⊢;unfold HH
  try dsimp only
  rw[aG];exact ae ⟨h,f⟩
def als(i:l.length<=400){f:ak}(I:CJ f){d:bD}(F:DI l d.L d.At):Ok (BX LC d f) λr=>DI l r.1 r.2.1/\r.2.2.length<=3/\∀a,a∈r.2.2->lS f.ai.length a:=by
 have L:=I.np;unfold BX;refine aD (ir i F 4 (by decide) (by decide)) λr G=>?_
 refine aD (Q:=λe:List Int×Int×List aS=>DI l e.1 e.2.1/\e.2.2.length<=3/\∀a,a∈e.2.2->lS f.ai.length a) ?_ λe o=>ae o
 refine oa (λc=>(0<=c.2.2.2/\c.2.2.2+(c.2.2.1.length:Int)<=3)/\DI l c.1 c.2.1/\∀a,a∈c.2.2.1->lS f.ai.length a) (λc=>c.2.2.2.toNat) _ (λc C=>?_) _ ⟨(by simp;omega),G.1,(λa q=>by cases q)⟩
 obtain⟨b,A,y,z⟩:=c;obtain⟨h0,p,m⟩:=C;dsimp only at h0 p m⊢;unfold R2
 try dsimp only
 refine aV (λN=>?_) (λ_=>ae ⟨p,by dsimp only;omega,m⟩)
 refine aD (apv i f.ai.length (by omega) (d:=⟨b,A⟩) p) λt v=>?_
 refine aD (iM i (d:=⟨t.1,t.2.1⟩) v.1 [9,29,4] (by decide) (by decide)) λj w=>?_
 refine aD (ir i (d:=⟨j.1,j.2.1⟩) w.1 3 (by decide) (by decide)) λu H=>?_
 refine aD (iM i (d:=⟨u.1,u.2.1⟩) H.1 [0,1,5] (by decide) (by decide)) λk s=>?_
 have O:4<=j.2.2/\j.2.2<=29:=by have:=w.2;simp at this;omega
 have J:0<=k.2.2/\k.2.2<=5:=by have:=s.2;simp at this;omega
 rw[aJ (n:=1+j.2.2)];refine aD (Q:=λe:xe=>∃g a,e=JB g a/\DI l g.L g.At/\lS f.ai.length a) ?_ λe o=>?_
 .refine aV (λ_=>?_) (λM=>ae ⟨_,_,rfl,s.1,⟨by dsimp only;omega,v.2,by dsimp only;omega,by dsimp only;omega,by dsimp only;omega⟩⟩)
  refine aD (ir i (d:=⟨k.1,k.2.1⟩) s.1 (f.ai.length:Int) (by omega) (by omega)) λK x=>ae ⟨_,_,rfl,x.1,⟨by simp,cj.one x.2.1 (by omega),by dsimp only;omega,by dsimp only;omega,by dsimp only;omega⟩⟩
 .obtain⟨g,a,rfl,E,q⟩:=o;show Ok ((bj 48 y [a]).bind λB=>c7 (ey (g.L,g.At,B,c3 c4 (z -1)))) _
  rw[dm (by decide) (by omega),aa,aJ];refine ae ⟨⟨by simp;omega,E,λD h=>?_⟩,by dsimp only;omega⟩
  rcases ec.1 h with h |h
  .exact m D h
  .rw[e4] at h;rw[h];exact q
def afs(s:l.length<=400){m:ak}(D:CJ m){d:bD}(B:DI l d.L d.At):Ok (Cq LC d m) λr=>DI l r.1 r.2.1/\r.2.2.length=m.af.length/\∀a,a∈r.2.2->ke a:=by
 have E:=D.nr;unfold Cq;refine aD (Q:=λf:List Int×Int×List bI=>DI l f.1 f.2.1/\f.2.2.length=m.af.length/\∀a,a∈f.2.2->ke a) ?_ λf t=>ae t
 refine di m.af.length (λi e=>e.2.2.2=(i:Int)/\DI l e.1 e.2.1/\e.2.2.1.length=i/\∀a,a∈e.2.2.1->ke a) _ (λi e I u=>?_) (λe u=>?_) _ ⟨rfl,B,rfl,λa c=>by cases c⟩
 .obtain⟨b,w,v,A⟩:=e;obtain⟨rfl,o,h,p⟩:=u;dsimp only at o h p⊢;unfold JQ
  try dsimp only
  rw[aC];refine aD (iM s (d:=⟨b,w⟩) o [0,1000,5000,20000,(-5000),(-20000),4999,100] (by decide) (by decide)) λg x=>?_
  refine aD (iM s (d:=⟨g.1,g.2.1⟩) x.1 [0,1,1000,6000] (by decide) (by decide)) λj y=>?_
  refine aD (iM s (d:=⟨j.1,j.2.1⟩) y.1 [0,1,500] (by decide) (by decide)) λk z=>?_
  have G: -20000<=g.2.2/\g.2.2<=20000:=by have:=x.2;simp at this;omega
  have J:0<=j.2.2/\j.2.2<=6000:=by have:=y.2;simp at this;omega
  have F:0<=k.2.2/\k.2.2<=500:=by have:=z.2;simp at this;omega
  rw[aJ (n:=g.2.2 -j.2.2),aJ (n:=g.2.2+k.2.2),dm (by decide) (by omega),aa];refine aD (p9 s (d:=⟨k.1,k.2.1⟩) z.1 9 (by decide)) λH C=>?_
  have c:∀a,a∈v++[bI.mk (g.2.2 -j.2.2) (g.2.2+k.2.2)]->ke a:=λa c=>by
   rcases ec.1 c with c |c
   .exact p a c
   .rw[e4] at c;rw[c];unfold ke;dsimp only;omega
  refine aD (Q:=λf:List bI=>f.length=i+1/\∀a,a∈f->ke a) ?_ λf t=>?_
  .refine dy (λ_=>?_) (λ_=>ae ⟨by simp[h],c⟩)
   rw[jF ⟨0,0⟩ (by omega) (by simp;omega),aa,get_at ⟨0,0⟩ (by omega) (by simp;omega),aa];refine ae ⟨by simp[h],λa q=>?_⟩
   rcases ez q with q |q
   .exact c a q
   .rw[q];unfold ke;dsimp only;omega
  .rw[aJ];exact ae ⟨rfl,C,t⟩
 .obtain⟨b,w,v,A⟩:=e;obtain⟨rfl,o,h,p⟩:=u;dsimp only at o h p⊢;unfold JQ
  try dsimp only
  rw[aG];exact ae ⟨o,h,p⟩
end
def JL{e b f a:Int}{l:List Int}(g:cj e b l)(n:b<a)(j:a<=f)(k:e<=a):cj e f (l++[a]):=λq i=>by
 simp only[ea,hU] at i
 by_cases h:q<l.length
 .have:=g q h;have d:(l++[a]).getD q 0=l.getD q 0:=by rw[dd,e6 h,dd]
  have c:(l++[a]).getD (q -1) 0=l.getD (q -1) 0:=by rw[dd,e6 (by omega),dd]
  rw[d,c];exact⟨this.1,by omega,this.2.2⟩
 .have m:q=l.length:=by omega
  have d:(l++[a]).getD q 0=a:=by rw[dd,m,fe (ga _)];simp
  rw[d];refine⟨k,j,λo=>?_⟩
  have:=g (q -1) (by omega);have c:(l++[a]).getD (q -1) 0=l.getD (q -1) 0:=by rw[dd,e6 (by omega),dd]
  rw[c];omega
def cj.up{a b c d:Int}{l:List Int}(h:cj a b l)(e:c<=a)(j:b<=d):cj c d l:=λi hi=>by
 have:=h i hi;exact⟨by omega,by omega,this.2.2⟩
def PF:∀{a:List Int},a.Pairwise (·<=·)->dQ a=a
 |[],_=>rfl
 |b::a,f=>by
  obtain⟨d,e⟩:=List.pairwise_cons.1 f;show mM b (dQ a)=b::a
  rw[PF e];cases a with
  |nil=>rfl
  |cons c a=>
   show(bif c5 (b<=c) then b::c::a else c::mM b a)=_
   rw[aC (d c (by simp))]
def cj.pw{a b:Int}{l:List Int}(h:cj a b l):l.Pairwise (·<=·):=by
 refine hI.2 λi e hi c d=>?_
 have:=h.lt d c;rw[pu (c6 hi),pu (c6 c)] at this;omega
def cj.bo{l:List Int}(h:cj 1 65535 l):lz l:=by
 unfold lz;rw[PF h.pw];exact h
def has_eq{l:List Int}{x:Int}(h:Fit l):xb LC l x=c7 (c5 (x∈l)):=by
 have r:l.length<=4611686018427387904:=h;have q:=Bb (l:=l) (x:=x) h;have o:Ok (bO (λf=>DG LC l x f) 0) λg=>(g= .inl ()/\x∈l)\/(g= .inr ()/\x∉l):=by
  refine di l.length (λi f=>f=(i:Int)/\∀c,c<i->l[c]? ≠c7 x) _ (λi f d b=>?_) (λf b=>?_) _ ⟨rfl,λc j=>by omega⟩
  .obtain⟨rfl,b⟩:=b;unfold DG;rw[aC,bn,c6 d,aa];refine aV (λa=>ae (.inl ⟨rfl,by rw[<-a];exact dT d⟩)) (λa=>?_)
   rw[aJ];refine ae ⟨rfl,λc j e=>?_⟩
   by_cases m:c=i
   .subst m;rw[c6 d] at e;injection e with e
    exact a e
   .exact b c (by omega) e
  .obtain⟨rfl,b⟩:=b;unfold DG;rw[aG];refine ae (.inr ⟨rfl,λn=>?_⟩)
   obtain⟨i,d,rfl⟩:=dv.1 n;exact b i d (c6 d)
 unfold xb;obtain⟨g,p,k⟩:=o;refine(dL p).trans ?_
 rcases k with⟨rfl,a⟩ |⟨rfl,a⟩
 .rw[decide_eq_true a];rfl
 .rw[decide_eq_false a];rfl
def N1(a:bI)(c b:Int):Ok (xG LC a c b) λ_=>True:=by
 unfold xG;exact aV (λ_=>aV (λ_=>ae trivial) (λ_=>ae trivial)) (λ_=>ae trivial)
def ajL{a:ak}(g:cP a):Ok (EI LC a) λ_=>True:=by
 have j:=g.1;have k:=g.2.1;unfold EI;refine aD (Q:=λ_=>True) (aV (λ_=>ae trivial) (λ_=>ae trivial)) λb _=>?_
 refine dy (λ_=>ae trivial) (λ_=>?_)
 refine aD (Q:=λ_=>True) ?_ λe _=>?_
 .refine di a.ai.length (λi c=>c=(i:Int)) _ (λi c f d=>?_) (λc d=>?_) _ rfl
  .subst d;unfold IS;rw[aC,bn,c6 f,aa];refine aD (Q:=λ_=>True) (aV (λ_=>ae trivial) (λ_=>ae trivial)) λb _=>?_
   refine dy (λ_=>ae trivial) (λ_=>?_)
   rw[aJ];exact ae (by dsimp only;omega)
  .subst d;unfold IS;rw[aG];exact ae trivial
 .cases e with
  |inl _=>exact ae trivial
  |inr _=>
   show Ok ((bO _ _).bind _) _
   refine aD (Q:=λ_=>True) ?_ λe _=>by cases e <;> exact ae trivial
   refine di a.af.length (λi c=>c=(i:Int)) _ (λi c f d=>?_) (λc d=>?_) _ rfl
   .subst d;unfold KX;rw[aC,bn,c6 f,aa];have tr:∀{p:Prop} [Decidable p] {a:Option Bool},Ok a (λ_=>True)->Ok (bif decide p then c7 true else a) λ_=>True:=λ{p} _ {a} h=>aV (λ_=>ae trivial) (λ_=>h)
    refine aD (Q:=λ_=>True) (tr (tr (tr (tr (ae trivial))))) λb _=>?_
    refine dy (λ_=>ae trivial) (λ_=>?_)
    refine aD (Q:=λ_=>True) (tr (tr (tr (tr (aD (N1 _ _ _) λb _=>dy (λ_=>ae trivial) λ_=>aD (N1 _ _ _) λb _=>ae trivial))))) λb _=>?_
    refine dy (λ_=>ae trivial) (λ_=>?_)
    rw[aJ];exact ae (by dsimp only;omega)
   .subst d;unfold KX;rw[aG];exact ae trivial
def Lx{c:ak}(e:cP c){i:Nat}(h:i<c.af.length)(b:Bool):Ok (wm LC c (i:Int) b) λ_=>True:=by
 have n:=e.2.1;have f:=c6 h;have g:=dT h;generalize c.af[i]=r at f g;have m:=(e.2.2.2 r g).1;unfold wm Gv;refine aD (Q:=λ_=>True) ?_ λ_ _=>ae trivial
 refine aD (Q:=λ_=>True) ?_ λp _=>?_
 .refine aD (ajL e) λo _=>?_
  refine aV (λ_=>ae trivial) (λ_=>aV (λ_=>ae trivial) (λ_=>aV (λ_=>ae trivial) (λ_=>?_)))
  rw[bn,f,aa,aa];exact dy (λ_=>ae trivial) (λ_=>ae trivial)
 .refine dy (λ_=>ae trivial) (λ_=>?_)
  rw[bn,f,aa];obtain⟨a,j,d⟩:∃a:Int×Int,Da LC r b=c7 a/\(0<=a.1/\a.1<(c.ai.length:Int))/\0<=a.2/\a.2<(c.ai.length:Int):=by
   unfold Da;cases b
   .exact⟨_,rfl,by dsimp only;omega,by dsimp only;omega⟩
   .exact⟨_,rfl,by dsimp only;omega,by dsimp only;omega⟩
  rw[j,aa,jF ⟨0,false⟩ d.2.1 d.2.2,aa,jF ⟨0,false⟩ d.1.1 d.1.2,aa];refine aD (Q:=λr:Int=>r≠0) (aV (λ_=>ae (by decide)) (λ_=>ae (by decide))) λq l=>?_
  refine aD (Q:=λr:Int=>r≠0) (aV (λ_=>ae (by decide)) (λ_=>ae l)) λs k=>?_
  rw[Ek k,aa];exact ae trivial
def Yh{c:ak}(j:cP c){ar:List Int}(l:Fit ar):Ok (Dt LC c ar) λr=>r.length<=c.af.length/\cj 0 ((c.af.length:Int) -1) r:=by
 have p:=j.2.1;unfold Dt;refine aD (Q:=λr:List Int=>r.length<=c.af.length/\cj 0 ((c.af.length:Int) -1) r) ?_ λf h=>ae h
 refine di c.af.length (λi a=>a.2=(i:Int)/\a.1.length<=i/\cj 0 ((i:Int) -1) a.1) _ (λi a g k=>?_) (λa k=>?_) _ ⟨rfl,ga _,cj.nil⟩
 .obtain⟨o,m⟩:=a;obtain⟨rfl,e,d⟩:=k;dsimp only at e d⊢;unfold Hh;rw[aC,bn,c6 g,aa];refine aD (Q:=λ_=>True) ?_ λb _=>?_
  .refine aD (Lx j g false) λn _=>?_
   exact aV (λ_=>ae trivial) (λ_=>aD (Lx j g true) λn _=>ae trivial)
  refine aD (Q:=λ_=>True) ?_ λb _=>?_
  .refine dy (λ_=>dy (λ_=>?_) (λ_=>ae trivial)) (λ_=>ae trivial)
   rw[has_eq l,aa,has_eq l,aa];exact ae trivial
  refine aD (Q:=λf:List Int=>f.length<=i+1/\cj 0 (((i+1:Nat):Int) -1) f) ?_ λf h=>?_
  .refine dy (λ_=>?_) (λ_=>ae ⟨by omega,d.up (dk _) (by omega)⟩)
   rw[dm (by decide) (by omega),aa];exact ae ⟨by simp;omega,JL d (by omega) (by omega) (by omega)⟩
  .rw[aJ];exact ae ⟨rfl,h⟩
 .obtain⟨o,m⟩:=a;obtain⟨rfl,e,d⟩:=k;dsimp only at e d⊢;unfold Hh;rw[aG];exact ae ⟨e,d⟩
structure yJ (s:gM):Prop where
 fN:CJ s.ao
 rd:s.aQ.length<=3/\∀x,x∈s.aQ->lS s.ao.ai.length x
 pl:(1<=s.ai.length/\s.ai.length<=3)/\∀x,x∈s.ai->0<=x/\x<(s.ao.ai.length:Int)
 tg:s.aw.length=s.ai.length/\lz s.aw
 fl:s.cI.length=s.ao.af.length/\∀x,x∈s.cI->ke x
 es:lH s.ao s.bR/\s.bR.dg=[]/\s.bR.dG=[]/\s.bR.akL.length<=1
 bl:rR s.bM/\s.bM.bT.length<=2/\∀x,s.bM.bT[s.bM.bT.length -1]?=c7 x->x<(s.ao.ai.length:Int)
 br:(1<=s.gZ.length/\s.gZ.length<=10)/\cj 0 ((s.ao.af.length:Int) -1) s.gZ
section
variable {l:List Int}
def alo(g:l.length<=400):Ok (zy LC ⟨l,0⟩) λr=>DI l r.1 r.2.1/\yJ r.2.2:=by
 unfold zy;refine aD (amM g DI.init) λV C=>?_
 obtain⟨ao,X,m⟩:=V;obtain⟨C,u⟩:=C;dsimp only at C u⊢;have au:=u.np;have av:=u.nr;refine aD (als g (d:=⟨ao,X⟩) u C) λp I=>?_
 refine aD (ir g (d:=⟨p.1,p.2.1⟩) I.1 3 (by decide) (by decide)) λx T=>?_
 rw[aJ (n:=1+x.2.2)];refine aD (Q:=λh=>∃f e a c,h=(f,e,m.ai,m.af,p.2.2,a,c,([]:List bI),([]:List Int),([]:List Int),([]:List Int),([]:List Int),([]:List Int))/\DI l f e/\((1<=a.length/\a.length<=3)/\∀k,k∈a->0<=k/\k<(m.ai.length:Int))/\c.length=a.length/\cj 1 65535 c) ?_ λay ag=>?_
 .obtain⟨n,an⟩:∃n:Nat,1+x.2.2=(n:Int):=⟨(1+x.2.2).toNat,by omega⟩;rw[an];refine di n (λi D=>∃f e a c,D=(f,e,m.ai,m.af,p.2.2,([]:List bI),([]:List Int),([]:List Int),([]:List Int),([]:List Int),([]:List Int),a,c,((n:Int) -i))/\DI l f e/\(a.length=i/\∀k,k∈a->0<=k/\k<(m.ai.length:Int))/\c.length=a.length/\cj 1 (30 -7*((n:Int) -i+1)) c) _ (λi D ax E=>?_) (λD E=>?_) _ ⟨x.1,x.2.1,[],[],by simp,T.1,⟨rfl,(λk o=>by cases o)⟩,rfl,cj.nil⟩
  .obtain⟨f,e,a,c,rfl,z,w,A,B⟩:=E;unfold F8;dsimp only;rw[aC];refine aD (ir g (d:=⟨f,e⟩) z (m.ai.length:Int) (by omega) (by omega)) λr j=>?_
   rw[dm (by decide) (by omega),aa,aJ (n:=7*((n:Int) -i)) (by omega) (by omega),aJ (n:=30 -7*((n:Int) -i)) (by omega) (by omega),dm (by decide) (by omega),aa,aJ];refine ae ⟨r.1,r.2.1,a++[r.2.2],c++[30 -7*((n:Int) -i)],?_,j.1,⟨by simp;omega,λk o=>?_⟩,by simp[A],JL B (by omega) (by omega) (by omega)⟩
   .rw[show(n:Int) -i -1=(n:Int) - ((i+1:Nat):Int) by omega]
   .rcases ec.1 o with o |o
    .exact w.2 k o
    .rw[e4] at o;rw[o];exact j.2
  .obtain⟨f,e,a,c,rfl,z,w,A,B⟩:=E;unfold F8;dsimp only;rw[aG];exact ae ⟨f,e,a,c,rfl,z,⟨by omega,w.2⟩,A,B.up (dk _) (by omega)⟩
 obtain⟨f,e,a,c,rfl,z,w,A,B⟩:=ag;dsimp only;refine aD (afs g (m:=⟨m.ai,m.af⟩) (d:=⟨f,e⟩) u z) λv R=>?_
 refine aD (iM g (d:=⟨v.1,v.2.1⟩) R.1 [600,100,2000] (by decide) (by decide)) λq M=>?_
 have aq:100<=q.2.2/\q.2.2<=2000:=by have:=M.2;simp at this;omega
 refine aD (p9 g (d:=⟨q.1,q.2.1⟩) M.1 3 (by decide)) λJ N=>?_
 refine aD (Q:=λh=>∃f e safe,h=(f,e,m.ai,m.af,p.2.2,a,c,v.2.2,safe,([]:List Int),([]:List Int),q.2.2,([]:List Int),([]:List Int))/\DI l f e/\cj 0 ((m.ai.length:Int) -1) safe/\safe.length<=1) ?_ λap aj=>?_
 .refine dy (λ_=>?_) (λ_=>ae ⟨_,_,[],rfl,N,cj.nil,by simp⟩)
  exact aD (ir g (d:=⟨J.1,J.2.1⟩) N (m.ai.length:Int) (by omega) (by omega)) λr j=>ae ⟨_,_,[r.2.2],rfl,j.1,cj.one j.2.1 (by omega),by simp⟩
 obtain⟨ab,ac,safe,rfl,ad,ai,ak⟩:=aj;dsimp only;refine aD (iM g (d:=⟨ab,ac⟩) ad [299,4] (by decide) (by decide)) λt O=>?_
 have aA:4<=t.2.2/\t.2.2<=299:=by have:=O.2;simp at this;omega
 refine aD (iM g (d:=⟨t.1,t.2.1⟩) O.1 [99,1799] (by decide) (by decide)) λs F=>?_
 have aB:99<=s.2.2/\s.2.2<=1799:=by have:=F.2;simp at this;omega
 rw[aJ (n:=(m.ai.length:Int) -2),aJ (n:=(m.ai.length:Int) -1),aJ (n:=1+t.2.2),aJ (n:=1+s.2.2)];refine aD (Q:=λh:List Int×Int×Bool=>DI l h.1 h.2.1/\(h.2.2=true->2<(m.ai.length:Int))) ?_ λL G=>?_
 .refine aV (λU=>?_) (λ_=>ae ⟨F.1,λy=>by cases y⟩)
  exact aD (p9 g (d:=⟨s.1,s.2.1⟩) F.1 3 (by decide)) λr j=>ae ⟨j,λ_=>U⟩
 refine aD (Q:=λh:DN=>∃ar,h=zl ⟨m,p.2.2,a,c,v.2.2,⟨safe,[],[],q.2.2⟩,⟨ar,1+t.2.2,1+s.2.2⟩,[]⟩/\ar.length≠0/\ar.length<=2/\cj 0 ((m.ai.length:Int) -1) ar) ?_ λaz Y=>?_
 .refine dy (λy=>ae ⟨_,rfl,by simp,by simp,?_⟩) (λ_=>ae ⟨_,rfl,by simp,by simp,cj.one (by omega) (by omega)⟩)
  have:=G.2 y;exact JL (l:=[(m.ai.length:Int) -2]) (b:=(m.ai.length:Int) -2) (cj.one (by omega) (by omega)) (by omega) (by omega) (by omega)
 obtain⟨ar,rfl,Z,W,P⟩:=Y;rw[show Nr (zl ⟨m,p.2.2,a,c,v.2.2,⟨safe,[],[],q.2.2⟩,⟨ar,1+t.2.2,1+s.2.2⟩,[]⟩)=⟨m,p.2.2,a,c,v.2.2,⟨safe,[],[],q.2.2⟩,⟨ar,1+t.2.2,1+s.2.2⟩,[]⟩ from rfl];dsimp only;refine aD (Yh u.ok (ar:=ar) (by show ar.length<=_;omega)) λK af=>?_
 have fin:∀(b:List Int),(1<=b.length/\b.length<=10)->cj 0 ((m.af.length:Int) -1) b->yJ ⟨m,p.2.2,a,c,v.2.2,⟨safe,[],[],q.2.2⟩,⟨ar,1+t.2.2,1+s.2.2⟩,b⟩:=λb al ah=>by
  refine⟨u,I.2,w,⟨A,B.bo⟩,R.2,⟨⟨u.ok,ai,cj.nil,cj.nil,?_,?_⟩,rfl,rfl,ak⟩,⟨⟨Z,P.up (by decide) (by omega),⟨?_,?_⟩,?_,?_⟩,W,λk o=>?_⟩,al,ah⟩
  .dsimp only;omega
  .dsimp only;omega
  .dsimp only;omega
  .dsimp only;omega
  .dsimp only;omega
  .dsimp only;omega
  .have:=P.mem (fC o);show k<(m.ai.length:Int)
   omega
 refine aD (Q:=λh:List Int×Int×Bool=>DI l h.1 h.2.1/\(h.2.2=false->1<=K.length)) ?_ λS H=>?_
 .refine aV (λ_=>ae ⟨G.1,λy=>by cases y⟩) (λaw=>?_)
  exact aD (p9 g (d:=⟨L.1,L.2.1⟩) G.1 8 (by decide)) λr j=>ae ⟨j,λ_=>by omega⟩
 refine dy (λ_=>?_) (λam=>ae ⟨H.1,fin K ⟨H.2 am,by omega⟩ af.2⟩)
 exact aD (ir g (d:=⟨S.1,S.2.1⟩) H.1 (m.af.length:Int) (by omega) (by omega)) λr j=>ae ⟨j.1,fin [r.2.2] (by simp) (cj.one j.2.1 (by omega))⟩
end
def ajS{c:List Int}{b:ak}(d:cj 0 ((b.af.length:Int) -1) c)(i:b.af.length<=1000)(g:c.length<=1000):zi LC c b=c7 false:=by
 unfold zi;have e:Ak LC c b=c7 (gg (λa=>!c5 (0<=a/\a<=(b.af.length:Int) -1)) c):=by
  unfold Ak;refine fF (P:=λa=>zm LC a b) (by omega) (λa _=>?_) λh=>rfl
  unfold zm;rw[aJ,cF,aa]
 rw[e,aa,gm]
 congr 1
 rw[List.any_eq_false];intro a f;have:=d.mem f;simp[this.1,this.2]
structure Lr (m:ak) (bo ps:List Int) (b:aL):Prop where
 ex:∃wh,b=⟨[⟨bo,wh⟩]⟩/\wh.length=ps.length/\∀(i:Nat) x p,wh[i]?=c7 x->ps[i]?=c7 p->x.aa0=0/\jK m x/\fn x.an p<=0
def adm{g:ak}{f d:List Int}(w:cP g)(J:f.length=d.length)(I:1<=d.length/\d.length<=3)(E:lz f)(H:∀a,a∈d->0<=a/\a<(g.ai.length:Int)):Ok (Bk LC g f d 0) λq=>q.2=0/\Lr g f d q.1:=by
 unfold Bk;rw[ko,aa,decide_eq_true w,ej,cond_false,aG,cF,aa,decide_eq_true (by omega),ej,aa,cond_false,O6 (cX (n:=3) (by omega) (by decide)),aa,decide_eq_true E,ej,cond_false,bV (cX (n:=3) (by omega) (by decide)),aa];refine aD (Q:=λv=>∃b,v=gv (f,b)/\b.length=d.length/\∀(i:Nat) a p,b[i]?=c7 a->d[i]?=c7 p->a.aa0=0/\jK g a/\fn a.an p<=0) ?_ λv z=>?_
 .refine di d.length (λi k=>∃b,k=(f,b,(i:Int))/\b.length=i/\∀(i:Nat) a p,b[i]?=c7 a->d[i]?=c7 p->a.aa0=0/\jK g a/\fn a.an p<=0) _ (λi k u o=>?_) (λk o=>?_) _ ⟨[],rfl,rfl,λi a p c=>by simp at c⟩
  .obtain⟨b,rfl,e,j⟩:=o;unfold HP;dsimp only;have r:=c6 u;have s:=dT u;generalize d[i]=p at r s;rw[aC,bn,r,aa];refine aD (aaW w (H p s) (t:=0) (by decide)) λq x=>?_
   obtain⟨A,C,D,F⟩:=x;rw[aG (by rw[A];simp),dm (by decide) (by omega),aa,aJ];refine ae ⟨b++[q.1],rfl,by simp[e],λm a B c h=>?_⟩
   by_cases G:m<b.length
   .rw[e6 G] at c;exact j m a B c h
   .have y:m=i:=by
     have:=(ev.1 c).1;simp at this;omega
    subst y;rw[fe (by omega),e,Nat.sub_self] at c;have c:c7 q.1=c7 a:=c;injection c with c
    rw[r] at h;injection h with h
    subst c;subst h;exact⟨C,D,F⟩
  .obtain⟨b,rfl,e,j⟩:=o;unfold HP;dsimp only;rw[aG];exact ae ⟨b,rfl,e,j⟩
 .obtain⟨b,rfl,e,j⟩:=z;exact ae ⟨rfl,⟨b,rfl,e,j⟩⟩
def anj:Ok (DL LC) λa=>Sm a.dl/\Sm a.dr:=by
 unfold DL;rw[show(32:Int)=((32:Nat):Int) from rfl,Oa (by decide),aa,nS (by decide) (by decide),aa];exact ae ⟨by show(ee 32 (-1:Int)).length<=_;rw[ft];decide,by show(ee _ (0:Int)).length<=_;rw[ft];decide⟩
structure vD (s:gM) (p:aE):Prop where
 ex:∃x b bs,p=⟨xj s.ao s.aQ s.ai s.aw 0,s.ao,s.cI,s.bR,s.bM,ee s.aQ.length (aT.mk 0 0 0 []),[],x,b,⟨0,[]⟩,⟨s.gZ,bs,false⟩,⟨0,0,0,0⟩,⟨[]⟩,[],[]⟩/\(Sm x.dl/\Sm x.dr)/\Lr s.ao s.aw s.ai b/\bs=ee s.gZ.length 0
def vD.mD{s:gM}(c:yJ s){p:aE}(h:vD s p):dW s.ai.length s.ao.ai.length p:=by
 obtain⟨x,b,J,rfl,t,o,rfl⟩:=h.ex;obtain⟨wh,rfl,A,E⟩:=o.ex;have H:=c.fN.ok;have F:=c.pl.1;have d:=c.rd;have w:=c.fN.nr;have y:=c.fN.np;have k:=c.br;refine {n3:=F,kN:=?_,fN:=rfl,gq:=H,gk:=rfl,iz:=by show(s.ai.map _).length=_;rw[e5],jR:=d.1,kj:=by show(s.aQ.map _).length=_;rw[e5];rfl,uD:=c.fl.1,kI:=?_,qx:=cX c.bl.2.1 (by decide),kn:=by show(ee _ _).length=_;rw[ft];rfl,rX:=?_,uB:=by show(0:Nat)<=60;decide,rW:=(λr d=>by cases d),int:=t,hZ:=?_,bne:=by simp,je:=.nil,pq:=.inl rfl,key:=?_,jY:=k.2,iI:=⟨by simp,(λa B=>by cases B),k7⟩,log:=by show(0:Nat)<=200;decide,uC:=(λh u=>by cases u)}
 .refine⟨cX (n:=7) y.2 (by decide),cX (n:=10) w.2 (by decide),?_,cX (n:=3) (by show s.aw.length<=3;have:=c.tg.1;omega) (by decide),cX (n:=3) d.1 (by decide),λr j=>?_,?_,?_,?_,λl D=>?_⟩
  .show(s.ai.map _).length<=1000000;rw[e5];omega
  .have:=(d.2 r j).2.1.len (by omega);show r.ai.length<=1000000
   omega
  .show(s.aQ.map _).length<=1000000;rw[e5];omega
  .show(s.aQ.map _).length<=1000000;rw[e5];omega
  .show(s.aQ.map _).length<=1000000;rw[e5];omega
  .obtain⟨r,_,rfl⟩:=j8.1 D;show(ee _ _).length<=1000000;rw[ft];omega
 .have e:=c.es;refine⟨⟨?_,?_,?_⟩,?_,?_,?_⟩
  .show s.bR.akL.length<=4611686018427387904;omega
  .show s.bR.dg.length<=4611686018427387904;rw[e.2.1];simp
  .show s.bR.dG.length<=4611686018427387904;rw[e.2.2.1];simp
  .show s.bR.akL.length<=1000000;omega
  .show s.bR.dg.length<=1000000;rw[e.2.1];simp
  .show s.bR.dG.length<=1000000;rw[e.2.2.1];simp
 .intro r j;rw[hL j];simp
 .refine⟨by simp,λI m=>?_⟩
  rw[e4] at m;subst m;refine⟨⟨A,λx C=>?_⟩,c.tg.1⟩
  obtain⟨i,hi,rfl⟩:=dv.1 C;exact(E i _ _ (c6 hi) (c6 (show i<s.ai.length by have hi:i<wh.length:=hi;omega))).2.1.1.1
 .refine⟨⟨by show(1:Int)<=(s.gZ.length:Int)/\(s.gZ.length:Int)<=12;omega,k.2.up (dk _) (by omega)⟩,by show(ee _ _).length=_;rw[ft],λn G=>?_,λh=>by cases h⟩
  rw[hL G]
  decide
def amU{a:gM}(c:yJ a):Ok (wX LC a.ao a.aQ a.ai a.aw a.cI a.bR a.bM a.gZ) λr=>r.2=0/\vD a r.1:=by
 have j:=c.fN.ok;have i:=c.pl;have B:=c.rd;have G:=c.fN.nr;have H:=c.fN.np;have e:=c.br;have g:=c.bl;unfold wX;rw[start_eq ⟨j,by omega,B.2⟩ c.tg.1 (by omega) i.2 c.tg.2 (by decide),aa,aG (by simp)];obtain⟨q,C,d⟩:=aqw a.ao a.cI [] 0 (by decide) (by show _<=4611686018427387904;omega);rw[C,aa];have t:q.2=0:=by
  rcases d with d |d
  .exact d.1
  .exact absurd ⟨⟨j,c.fl.1,c.fl.2⟩,cj.nil,by decide,by decide⟩ d.2
 have I:a.bM.bT.length≠0:=g.1.1;have f:a.bM.bT[a.bM.bT.length -1]?=c7 (a.bM.bT[a.bM.bT.length -1]'(by omega)):=c6 _;generalize a.bM.bT[a.bM.bT.length -1]'(by omega)=p at f;have h:=c.es;have w:lO a.bR:=⟨by show a.bR.akL.length<=4611686018427387904;omega,by show a.bR.dg.length<=4611686018427387904;rw[h.2.1];simp,by show a.bR.dG.length<=4611686018427387904;rw[h.2.2.1];simp⟩;have u:(bif c5 (q.2≠0) then c7 true else(rP LC a.ao a.bR).bind λD=>bif (!D) then c7 true else(oT LC a.bM (b7.mk 0 0 0 0)).bind λE=>bif (!E) then c7 true else(aj a.bM.bT (c3 c4 ((a.bM.bT.length:Int) -1))).bind λF=>c7 (c5 ((a.ao.ai.length:Int)<=F)):Option Bool)=c7 false:=by
  rw[aG (by rw[t];simp),Jc w,aa,decide_eq_true h.1,ej,cond_false,AH (by show a.bM.bT.length<=_;omega),aa,decide_eq_true ⟨g.1,Xp⟩,ej,cond_false,aJ,show((a.bM.bT.length:Int) -1)=((a.bM.bT.length -1:Nat):Int) by omega,bn,f,aa,decide_eq_false (by have:=g.2.2 p f;omega)]
 refine c8 u ?_
 rw[cond_false,ajS e.2 (by omega) (by omega),aa,cond_false];have y:uJ a.gZ:=⟨by omega,e.2.up (dk _) (by omega)⟩;have x:AQ LC a.gZ=c7 (⟨a.gZ,ee a.gZ.length 0,false⟩,0):=by
  unfold AQ;rw[Nq (by show _<=4611686018427387904;omega),aa,decide_eq_true y,ej,cond_false,bV (cX (n:=10) e.1.2 (by decide)),aa,nS (by omega) (by omega),aa,dt]
 rw[x,aa,aG (by simp)];obtain⟨b,o,v,z⟩:=adm j c.tg.1 i.1 c.tg.2 i.2;rw[o,aa,aG (by rw[v];simp),nS (by omega) (by omega),aa,dt];obtain⟨m,s,A⟩:=anj;rw[s,aa];have k:vD a ⟨xj a.ao a.aQ a.ai a.aw 0,a.ao,a.cI,a.bR,a.bM,ee a.aQ.length (aT.mk 0 0 0 []),[],m,b.1,⟨0,[]⟩,⟨a.gZ,ee a.gZ.length 0,false⟩,⟨0,0,0,0⟩,⟨[]⟩,[],[]⟩:=⟨m,b.1,_,rfl,A,z,rfl⟩;rw[abi (k.mD c).lC,aa];exact ae ⟨rfl,k⟩
def Vr{a:gM}(c:yJ a):Ok (Cw LC a) λr=>r.2=true/\vD a r.1:=by
 unfold Cw;exact aD (amU c) λr b=>ae ⟨decide_eq_true b.1,b.2⟩
def k9(b:Nat)(a:bH):Prop:=a.abv=3->0<=a.A/\a.A<max 1 (b:Int)
section
variable {l:List Int}
def anp(e:l.length<=400){d:bD}(q:DI l d.L d.At){p1 p2 p3 p5:Int}{nr:Nat}(z:p1<=1000)(y:p2<=1000)(A:p3<=1000)(C:nr<=1000)(B:p5<=1000):Ok (Di LC d p1 p2 p3 (max 1 (nr:Int)) p5) λr=>DI l r.1 r.2.1/\k9 nr r.2.2:=by
 unfold Di;refine aD (iM e q [1,1,2,2,3,4,3,4,5,6,7,8,9,10,11,12,13,7] (by decide) (by decide)) λa f=>?_
 refine aD (Q:=λi:vL=>∃g p,i=rB g p/\DI l g.L g.At/\k9 nr p) ?_ λi n=>by
  obtain⟨g,p,rfl,x,w⟩:=n;exact ae ⟨x,w⟩
 have no:∀{u b t o:Int},o≠3->k9 nr ⟨o,u,b,t⟩:=λ{u b t o} h q=>absurd q h
 refine aV (λh=>?_) (λ_=>?_)
 .exact aD (iM e (d:=⟨a.1,a.2.1⟩) f.1 [1,5,10,30,100,0,300] (by decide) (by decide)) λr c=>ae ⟨_,_,rfl,c.1,no (by omega)⟩
 refine aV (λh=>?_) (λ_=>?_)
 .refine aD (lW e (d:=⟨a.1,a.2.1⟩) f.1 p1 (by omega)) λr c=>?_
  refine aD (lW e (d:=⟨r.1,r.2.1⟩) c.1 p2 (by omega)) λj m=>?_
  exact aD (iM e (d:=⟨j.1,j.2.1⟩) m.1 [0,0,5,60] (by decide) (by decide)) λv s=>ae ⟨_,_,rfl,s.1,no (by omega)⟩
 refine aV (λh=>?_) (λk=>?_)
 .refine aD (ir e (d:=⟨a.1,a.2.1⟩) f.1 (max 1 (nr:Int)) (by omega) (by omega)) λr c=>?_
  refine aD (iM e (d:=⟨r.1,r.2.1⟩) c.1 [0,0,1,2,3] (by decide) (by decide)) λj m=>?_
  exact aD (iM e (d:=⟨j.1,j.2.1⟩) m.1 [0,0,1,(-1),3] (by decide) (by decide)) λv s=>ae ⟨_,_,rfl,s.1,λ_=>c.2⟩
 refine aV (λh=>?_) (λ_=>?_)
 .exact aD (lW e (d:=⟨a.1,a.2.1⟩) f.1 _ (by omega)) λr c=>ae ⟨_,_,rfl,c.1,no (by omega)⟩
 refine aV (λh=>?_) (λ_=>?_)
 .refine aD (lW e (d:=⟨a.1,a.2.1⟩) f.1 p1 (by omega)) λr c=>?_
  exact aD (lW e (d:=⟨r.1,r.2.1⟩) c.1 p1 (by omega)) λj m=>ae ⟨_,_,rfl,m.1,no (by omega)⟩
 refine aD (Q:=λi:List Int×Int×Int×Int×Int=>DI l i.1 i.2.1/\i.2.2.1≠3) ?_ λi n=>ae ⟨_,_,rfl,n.1,no n.2⟩
 refine aV (λh=>?_) (λ_=>?_)
 .exact aD (lW e (d:=⟨a.1,a.2.1⟩) f.1 p3 (by omega)) λr c=>ae ⟨c.1,k⟩
 refine aV (λh=>?_) (λ_=>?_)
 .exact aD (lW e (d:=⟨a.1,a.2.1⟩) f.1 p5 (by omega)) λr c=>ae ⟨c.1,k⟩
 refine aD (Q:=λ_=>True) (aV (λ_=>ae trivial) (λ_=>ae trivial)) λb _=>?_
 refine dy (λ_=>?_) (λ_=>?_)
 .exact aD (lW e (d:=⟨a.1,a.2.1⟩) f.1 2 (by decide)) λr c=>ae ⟨c.1,k⟩
 refine aV (λh=>?_) (λ_=>?_)
 .refine aD (lW e (d:=⟨a.1,a.2.1⟩) f.1 4 (by decide)) λr c=>?_
  rw[Ek (by decide),aa];exact ae ⟨c.1,k⟩
 refine aD (Q:=λ_=>True) (aV (λ_=>ae trivial) (λ_=>ae trivial)) λb _=>?_
 refine dy (λ_=>?_) (λ_=>ae ⟨f.1,k⟩)
 exact aD (lW e (d:=⟨a.1,a.2.1⟩) f.1 p2 (by omega)) λr c=>ae ⟨c.1,k⟩
def vx{c:Nat}{d b:List bH}(g:∀a,a∈d->k9 c a)(f:∀a,a∈b->k9 c a):∀a,a∈d++b->k9 c a:=λa e=>(ec.1 e).elim (g a) (f a)
def aqk(h:l.length<=400){d:bD}(f:DI l d.L d.At){D B:Nat}{p:aE}(k:dW D B p)(u:Int)(E:1<=u)(R:u<=1000):Ok (EJ LC d p u) λr=>DI l r.1 r.2.1/\r.2.2.length<=100/\∀b,b∈r.2.2->k9 p.au.aQ.length b:=by
 have N:=k.key.1.1;have W:=k.iz;have U:=k.n3;have Y:=k.gq.1;have Z:=k.gq.2.1;have O:=k.jR;unfold EJ;refine aD (ir h f u E (by omega)) λH J=>?_
 rw[aJ];refine aD (Q:=λa:List Int×Int×List bH=>DI l a.1 a.2.1/\a.2.2.length<=100/\∀b,b∈a.2.2->k9 p.au.aQ.length b) ?_ λa g=>ae g
 refine oa (λc=>(0<=c.2.2.2/\c.2.2.2<=5+H.2.2)/\DI l c.1 c.2.1/\c.2.2.1.length<=100/\∀b,b∈c.2.2.1->k9 p.au.aQ.length b) (λc=>c.2.2.2.toNat) _ (λc m=>?_) _ ⟨⟨(by dsimp only;omega),dk _⟩,J.1,by simp,(λb e=>by cases e)⟩
 obtain⟨M,C,s,i⟩:=c;obtain⟨h0,v,x,n⟩:=m;dsimp only at h0 v x n⊢;unfold T2;dsimp only;have G:(bif c5 (0<i) then c7 (c5 ((s.length:Int)<60)) else c7 false)=c7 (c5 (0<i/\(s.length:Int)<60)):=fm rfl;refine c8 G ?_
 refine aV (λX=>?_) (λ_=>ae ⟨v,x,n⟩)
 refine aD (Q:=λa:List Int×Int×List bH=>DI l a.1 a.2.1/\a.2.2.length<=100/\∀b,b∈a.2.2->k9 p.au.aQ.length b) ?_ λa g=>by
  rw[aJ];exact ae ⟨⟨by dsimp only;omega,g⟩,by dsimp only;omega⟩
 refine aD (p9 h (d:=⟨M,C⟩) v 12 (by decide)) λr A=>?_
 refine dy (λ_=>?_) (λ_=>?_)
 .refine aD (Q:=λa:List bH=>a.length<=s.length+12/\∀b,b∈a->k9 p.au.aQ.length b) ?_ λa g=>?_
  .refine di p.aa2.af.length (λi c=>c.2=(i:Int)/\c.1.length=s.length+i/\∀b,b∈c.1->k9 p.au.aQ.length b) _ (λi c V m=>?_) (λc m=>?_) _ ⟨rfl,rfl,n⟩
   .obtain⟨F,q⟩:=c;obtain⟨rfl,w,o⟩:=m;dsimp only at w o⊢;unfold II;rw[aC,dm (by decide) (by omega),aa,aJ];refine ae ⟨rfl,by simp;omega,vx o λb e=>?_⟩
    rw[e4] at e;subst e;exact λf=>absurd f (show ¬(7:Int)=3 by decide)
   .obtain⟨F,q⟩:=c;obtain⟨rfl,w,o⟩:=m;dsimp only at w o⊢;unfold II;rw[aG];exact ae ⟨by omega,o⟩
  .rw[pN (by simp;omega),aa];refine ae ⟨A,by simp;omega,vx g.2 λb e=>?_⟩
   simp at e;rcases e with rfl |rfl |rfl |rfl <;> exact λf=>absurd f (by decide)
 .refine aD (Q:=λa:List Int×Int×Bool=>DI l a.1 a.2.1/\(a.2.2=true->0<p.au.aQ.length)) (aD (p9 h (d:=⟨r.1,r.2.1⟩) A 3 (by decide)) λS z=>dy (λ_=>ae ⟨z,λf=>by have:=of_decide_eq_true f;omega⟩) (λ_=>ae ⟨z,λf=>by cases f⟩)) λa g=>?_
  refine dy (λI=>?_) (λ_=>?_)
  .have P:=g.2 I;refine aD (ir h (d:=⟨a.1,a.2.1⟩) g.1 (p.au.aQ.length:Int) (by omega) (by omega)) λt j=>?_
   refine aD (iM h (d:=⟨t.1,t.2.1⟩) j.1 [0,0,1] (by decide) (by decide)) λy L=>?_
   refine aD (iM h (d:=⟨y.1,y.2.1⟩) L.1 [1,5,10,20] (by decide) (by decide)) λT K=>?_
   rw[pN (by simp;omega),aa];refine ae ⟨K.1,by simp;omega,vx n λb e=>?_⟩
   simp at e;rcases e with rfl |rfl |rfl
   .exact λ_=>⟨j.2.1,by have:=j.2.2;show t.2.2<_;omega⟩
   .exact λf=>absurd f (show ¬(4:Int)=3 by decide)
   .exact λf=>absurd f (show ¬(1:Int)=3 by decide)
  .refine aD (anp h (d:=⟨a.1,a.2.1⟩) g.1 (p1:=(p.au.aN.length:Int)) (p2:=(p.ao.af.length:Int)) (p3:=(p.ao.ai.length:Int)) (nr:=p.au.aQ.length) (p5:=max 1 (p.aa2.af.length:Int)) (by omega) (by omega) (by omega) (by omega) (by omega)) λt j=>?_
   rw[dm (by decide) (by omega),aa];refine ae ⟨j.1,by simp;omega,vx n λb e=>?_⟩
   rw[e4] at e;rw[e];exact j.2
end
def gC.Gm{p j:aE}{e:bH}(h:gC p e j):j.au.aQ=p.au.aQ:=by
 cases h with
 |xZ _ _ _ _ _ c=>obtain⟨b,s,fl,sm,n,rfl,_⟩:=c.ex;rfl
 |xY _ _ _ _ _ _ _ _ _ c=>obtain⟨b,s,fl,sm,n,rfl,_⟩:=c.ex;rfl
 |look k rd B r _ _ c=>obtain⟨row,G,yp,a,l,o,t,F,m,E,D,A,u,d⟩:=c.ex;rw[d]
 |swap x b s w C _ _ _ _ _ _ _ _ d y m=>rw[d]
 |_=>rfl
def oA.Gm{p a:aE}{e:bH}{c:Int}(h:oA p e a c):a.au.aQ=p.au.aQ:=by
 cases h with
 |no c _=>rfl
 |bad al nm c _ _ _ _ _=>rfl
 |zI q nm d _ _ _=>exact d.Gm
noncomputable def L2:Lp:=⟨λf c=>match fY f 2000 c with |some b=>c7 b |none=>bO f c,λf c b a=>by
 cases d:fY f 2000 c with
 |some e=>rw[d] at a;exact⟨2000,d.trans a⟩
 |none=>rw[d] at a;exact zR a⟩
def ah0:L2=LC:=by
 unfold L2 LC
 congr 1
 funext α β f a
 cases b:fY f 2000 a with
 |some c=>exact(Cd b).symm
 |none=>rfl
def ZE:vn L2=c7 true:=by kernel_rfl
def WQ:vn LC=c7 true:=ah0▸ZE
def ajy(a:List Int):I1 LC a=c7 (c5 ((a.length:Int)<=400)):=rfl
structure Gh where
 tr:Nat->Tr
 tp:Int->Int->Int
 lk:Nat->Nat->abc
 c:Nat->Nat
structure Ghs (n np:Nat) (G:Gh) (T:Int):Prop where
 ok:∀k,k<n->(G.tr k).Ok T
 oV:∀k,k<n->∀u,0<=u->u<=T->0<=(G.tr k).pl u/\(G.tr k).pl u<(np:Int)
def ala(g:vG)(G:Gh)(T:Int)(bo:List Int)(f:ay):Prop:=
 f.aw=bo/\∀(a:Nat) c,f.aH[a]?=c7 c->Snd g (G.tr a) T c.aa0 (fn c.an)/\∀e,bo[a]?=c7 e->∀d,c.aa0<=d->d<=T->G.tp e d=(G.tr a).pl d
structure aan (m:ak) (G:Gh) (T:Int) (bo:List Int) (b:aL):Prop where
 wok:∀w,w∈b.aA->∀x,x∈w.aH->jK m x/\x.aa0<=T
 tru:∃w,w∈b.aA/\ala (rL m) G T bo w
section
variable {n np:Nat}{m:ak}{G:Gh}{T:Int}{bo:List Int}{b b':aL}
def c9{a:Type}{c:List a}{i:Nat}{e:a}(d:c[i]?=c7 e):i<c.length:=(ev.1 d).1
def fM.lt(d:fM n np b){a:ay}(c:a∈b.aA){i:Nat}{x:aM}(h:a.aH[i]?=c7 x):i<n/\x.an.length=np:=by
 have:=c9 h;exact⟨by have:=(d.mX a c).1.1;omega,(d.mX a c).1.2 x (fC h)⟩
def aan.Ls(K:Ghs n np G T)(I:fM n np b)(h:aan m G T bo b){tag L a t:Int}{l:List Int}(S:a<=L)(Q:L<=t)(M:t<=T)(N:G.tp tag L∈l)
 (J:oG (λx y=>y=x\/lG m x l a t y) (λx=>x.aa0<=a/\∀p,p∈l->t<fn x.an p) m tag b b'):aan m G T bo b':=by
 refine⟨λP B y D=>?_,?_⟩
 .obtain⟨o,s,i,x,U,_,d,c,rfl⟩:=J.n.from_ P B;rcases ez D with D |rfl
  .exact h.wok o s y D
  .rcases c with rfl |c
   .exact h.wok o s _ (fC d)
   .exact⟨c.new,by rw[c.time];exact M⟩
 .obtain⟨o,s,ht,C⟩:=h.tru;have key:∀(i:Nat) x,o.aw[i]?=c7 tag->o.aH[i]?=c7 x->x.aa0<=a->(G.tr i).pl L∈l/\fn x.an ((G.tr i).pl L)<=t:=λi x u d ac=>by
   obtain⟨w,A⟩:=C i x d;have aa:=A tag (by rw[<-ht];exact u) L (by omega) (by omega);rw[aa] at N;have ad:=w.ok L (by omega) (by omega);have ab:=(K.ok i (I.lt s d).1).L3 L (by have:=w.lo;omega) (by omega);exact⟨N,by omega⟩
  rcases J.n.b9 o s with⟨P,B,i,x,U,u,d,c,rfl⟩ |⟨i,x,u,d,F⟩
  .refine⟨_,B,ht,λk W j=>?_⟩
   obtain⟨w,A⟩:=C i x d;dsimp only at j;rw[gb] at j
   split at j
   .rename_i e;subst e
    split at j
    .injection j with j
     subst j;rcases c with rfl |c
     .exact⟨w,A⟩
     .have O:=c.from_;obtain⟨E,H⟩:=key i x u d O;refine⟨?_,λX Z V Y R=>A X Z V (by rw[c.time] at Y;omega) R⟩
      rw[c.time];exact w.Ls (K.ok i (I.lt s d).1) O S Q M (c.low _ E H) c.cl
    .cases j
   .exact C k W j
  .exfalso
   obtain⟨E,H⟩:=key i x u d F.1;have:=F.2 _ E;omega
def aan.abs(M:Ghs n np G T)(Y:fM n np b)(R:m.ai.length=np)(h:aan m G T bo b){tag a t bl:Int}{l:List Int}(O:t<=T)(U:∀s o,a<=s->o<=t->s<=o->(∀d,s<=d->d<=o->G.tp tag d∈l)->o -s<=bl)
 (L:oG (λx B=>B=x\/∃g1,og m x l a t bl B g1) (λ_=>False) m tag b b'):aan m G T bo b':=by
 refine⟨λQ C B E=>?_,?_⟩
 .obtain⟨A,w,i,x,X,_,u,c,rfl⟩:=L.n.from_ Q C;rcases ez E with E |rfl
  .exact h.wok A w B E
  .rcases c with rfl |⟨g1,c⟩
   .exact h.wok A w _ (fC u)
   .exact⟨c.new,by rw[c.time];exact O⟩
 .obtain⟨A,w,ht,I⟩:=h.tru;rcases L.n.b9 A w with⟨Q,C,i,x,X,J,u,c,rfl⟩ |⟨i,x,J,u,V⟩
  .refine⟨_,C,ht,λk Z j=>?_⟩
   obtain⟨D,F⟩:=I i x u;dsimp only at j;rw[gb] at j
   split at j
   .rename_i e;subst e
    split at j
    .injection j with j
     subst j;rcases c with rfl |⟨g1,c⟩
     .exact⟨D,F⟩
     .have ai:=c.from_;have hi:=(Y.lt w u).1;have ah:=D.lo;have P:=M.oV i hi;have N:=c.bl;refine⟨?_,λac ad d ae W=>F ac ad d (by rw[c.time] at ae;omega) W⟩
      rw[c.time];refine D.agP (M.ok i hi) (S:=λq=>q∈l) (b:=max a x.aa0) (to:=t) (blind:=bl) (g1:=fn g1) (by omega) O N.1 N.2 (λs o af K H ag=>?_) (λd af K H=>?_) c.c1 ?_ (by have:=c.new.2;rw[c.time] at this;exact this)
      .refine U s o (by omega) K H λd aa ab=>?_
       rw[F tag (by rw[<-ht];exact J) d (by omega) (by omega)];exact ag d aa ab
      .have y:=P d (by omega) (by omega);exact c.off _ y.1 (by rw[R];exact y.2) H
      .have y:=P t (by omega) (by omega);exact c.le _ y.1 (by rw[R];exact y.2)
    .cases j
   .exact I k Z j
  .exact absurd V id
def acL{h:Type}{a:List h}{i c:Int}(l:0<=i/\i<(a.length:Int))(k:0<=c/\c<(a.length:Int))(d:Nat):(gL i c a)[d]?=if(d:Int)=c then a[i.toNat]? else if(d:Int)=i then a[c.toNat]? else a[d]? :=by
 have j:a[i.toNat]?=c7 (a[i.toNat]'(by omega)):=c6 (by omega);have g:a[c.toNat]?=c7 (a[c.toNat]'(by omega)):=c6 (by omega);unfold gL;rw[j,g];dsimp only;rw[gb,gb,e0]
 by_cases f:(d:Int)=c
 .rw[if_pos f,if_pos (by omega),if_pos (by omega)]
 .rw[if_neg f,if_neg (by omega)]
  by_cases e:(d:Int)=i
  .rw[if_pos e,if_pos (by omega),if_pos (by omega)]
  .rw[if_neg e,if_neg (by omega)]
def akY{c:Type}{a:List c}{i d:Int}:(gL i d a).length=a.length:=by
 unfold gL
 split
 .rw[e0,e0]
 .rfl
def jK.later{x a:aM}(h:jK m x)(c:a.an=x.an)(ht:x.aa0<=a.aa0)(e:a.aa0<=2147483648):jK m a:=by
 obtain⟨⟨d,l,k⟩,j⟩:=h;refine⟨⟨by rw[c];exact d,⟨by omega,e⟩,by rw[c];exact k⟩,?_⟩
 rw[c];exact EF j ht
def aan.Np(N:Ghs n np G T)(B:fM n np b)(h:aan m G T bo b)(W:0<=T/\T<=2147483648){i c:Int}(J:(G.tr i.toNat).pl T=(G.tr c.toNat).pl T)(E:AY m i c T n np b b'):aan m G T (gL i c bo) b':=by
 obtain⟨l,Q,_,aG,ad,aw⟩:=E.ex;obtain⟨hi,aP,aQ,_⟩:=E.ix;have rz:∀{a:ay} {k:Nat} {j:aM},(kH c T (kH i T a.aH))[k]?=c7 j->∃d,a.aH[k]?=c7 d/\j.an=d.an/\d.aa0<=j.aa0/\(j.aa0=d.aa0\/j.aa0=T)/\(((k:Int)=i\/(k:Int)=c)->T<=j.aa0):=λ{a k j} s=>by
  obtain⟨aI,a1,an,aE,aJ,au⟩:=F3 s;obtain⟨d,ak,aB,aK,aD,ah⟩:=F3 a1;refine⟨d,ak,an.trans aB,by omega,by omega,λw=>?_⟩
  rcases w with w |w
  .have:=ah w W.2;omega
  .exact au w W.2
 have Y:∀u,u∈b'.aA->∀x,x∈u.aH->jK m x/\x.aa0<=T:=by
  refine Q.b (λx=>jK m x/\x.aa0<=T) (λx D _ _ A X=>⟨A.1.join X.1 E.v.fN,by show max x.aa0 D.aa0<=T;have:=A.2;have:=X.2;omega⟩) λa o x A=>?_
  rcases aw a o with o |⟨al,ar,rfl⟩
  .exact h.wok a o x A
  .obtain⟨k,s,rfl⟩:=dv.1 A;obtain⟨d,c1,P,ab,ao,_⟩:=rz (c6 s);have:=h.wok al ar d (fC c1);exact⟨this.1.later P ab (by omega),by omega⟩
 refine⟨Y,?_⟩
 obtain⟨a,o,ht,s⟩:=h.tru;obtain⟨⟨aH,aO⟩,aC⟩:=B.mX a o;have ex:a.aH[i.toNat]?=c7 (a.aH[i.toNat]'(by omega)):=c6 (by omega);have C:a.aH[c.toNat]?=c7 (a.aH[c.toNat]'(by omega)):=c6 (by omega);generalize a.aH[i.toNat]'(by omega)=x at ex;generalize a.aH[c.toNat]'(by omega)=D at C;obtain⟨U,am⟩:=s _ x ex;obtain⟨aa,af⟩:=s _ D C;have aev:∀{k:Nat} {z},a.aH[k]?=c7 z->Snd (rL m) (G.tr k) T z.aa0 (fn z.an)->(G.tr k).pl T∈dz z T:=λ{k z} I sz=>by
  have F:=N.oV k (B.lt o I).1 T (by omega) (dk _);have E:=(N.ok k (B.lt o I).1).L3 T (by omega) (dk _);have:=sz.ok T sz.le (dk _);exact Sq.2 ⟨F.1,by rw[(B.lt o I).2];exact F.2,by omega⟩
 obtain⟨u,H,ag,ap⟩:=Q.a _ (ad a x D o ex C ⟨_,aev ex U,by rw[J];exact aev C aa⟩);have ae:=(Q.c u H).1;refine⟨u,H,by rw[ag];show gL i c a.aw=_;rw[ht],λk Z O=>?_⟩
 have aq:k<n:=by have:=c9 O;have:=ae.1;omega
 have ac:k<(rU i c T a).aH.length:=by show k<(kH c T (kH i T a.aH)).length;rw[ID,ID];omega
 have L:(rU i c T a).aH[k]?=c7 ((rU i c T a).aH[k]):=c6 ac;generalize (rU i c T a).aH[k]=j at L;obtain⟨aF,av⟩:=ap k j Z L O;obtain⟨d,c1,P,ab,ao,V⟩:=rz L;obtain⟨R,aA⟩:=s k d c1;have aj:=(Y u H Z (fC O)).2;have F:=N.oV k aq;have aL:=R.lo;refine⟨R.raise (by omega) aj λy ax K=>?_,λM t y ax K=>?_⟩
 .have S:=F y (by omega) K;have:=av _ S.1 S.2;rw[P] at this;exact this
 .have aN:bo.length=n:=by rw[<-ht];exact aC
  rw[acL (by omega) (by omega)] at t
  split at t
  .rename_i ai;have:=V (.inr ai);have e:y=T:=by omega
   rw[e,am M t T U.le (dk _),J,show c.toNat=k by omega]
  .split at t
   .rename_i az;have:=V (.inl az);have e:y=T:=by omega
    rw[e,af M t T aa.le (dk _), <-J,show i.toNat=k by omega]
   .exact aA M t y (by omega) K
def ai8(p:Ghs n np G T)(o:0<=T){k j:vG}{a:Nat}(q:a<n){c:aM}{g:Int->Int}(e:Snd k (G.tr a) T c.aa0 (fn c.an))(l:g ((G.tr a).pl T)<=fn c.an ((G.tr a).pl T)):Snd j (G.tr a) T T g:=
 ⟨o,dk _,λf d h=>absurd d (by omega),λf d h=>by
  have i:f=T:=by omega
  rw[i];exact j2 l (e.ok T e.le (dk _))⟩
def aan.renew(w:Ghs n np G T)(H:fM n np b)(h:aan m G T bo b)(C:0<=T){m':ak}(N:m'.ai.length=np)(J:gG (λx d=>mP m' x T d) b.aA b'.aA):aan m' G T bo b':=by
 obtain⟨Q,A⟩:=J;refine⟨λR D d c=>?_,?_⟩
 .obtain⟨i,hi,rfl⟩:=dv.1 D;obtain⟨k,e,rfl⟩:=dv.1 c;have l:b.aA[i]?=c7 (b.aA[i]'(by omega)):=c6 _;obtain⟨_,r2,j⟩:=A i _ _ l (c6 hi);have a:(b.aA[i]'(by omega)).aH[k]?=c7 ((b.aA[i]'(by omega)).aH[k]'(by omega)):=c6 _;have:=j k _ _ a (c6 e);exact⟨this.new,by rw[this.time];exact dk _⟩
 .obtain⟨P,y,ht,e⟩:=h.tru;obtain⟨i,hi,rfl⟩:=dv.1 y;have l:=c6 hi;have a:b'.aA[i]?=c7 (b'.aA[i]'(by omega)):=c6 _;obtain⟨r1,r2,j⟩:=A i _ _ l a;refine⟨_,fC a,by rw[r1];exact ht,λk d c=>?_⟩
  have O:=c9 c;have o:b.aA[i].aH[k]?=c7 (b.aA[i].aH[k]'(by omega)):=c6 _;have s:=j k _ d o c;obtain⟨t,M⟩:=e k _ o;have u:=(H.lt y o).1;have B:=w.oV k u T C (dk _);refine⟨?_,λK L I F E=>M K L I (by rw[s.time] at F;have:=t.le;omega) E⟩
  rw[s.time];exact ai8 w C u t (s.le _ B.1 (by rw[N];exact B.2))
def aan.shut(C:Ghs n np G T)(W:fM n np b)(h:aan m G T bo b)(F:0<=T){l:List Int}(af:m.ai.length=np)(aa:Ff m b l T n np b'):∃c,ki m l c/\aan c G T bo b':=by
 obtain⟨c,s,D,⟨al,L⟩,E⟩:=aa.ex;have N:∀a,a∈b'.aA->∀x,x∈a.aH->jK c x/\x.aa0<=T:=by
  refine E.b (λx=>jK c x/\x.aa0<=T) (λx Z _ _ K M=>⟨K.1.join M.1 (adg D),by show max x.aa0 Z.aa0<=T;have:=K.2;have:=M.2;omega⟩) λa d t e=>?_
  obtain⟨i,hi,rfl⟩:=dv.1 d;obtain⟨k,w,rfl⟩:=dv.1 e;have A:b.aA[i]?=c7 (b.aA[i]'(by omega)):=c6 _;obtain⟨_,r2,y⟩:=L i _ _ A (c6 hi);have o:(b.aA[i]'(by omega)).aH[k]?=c7 ((b.aA[i]'(by omega)).aH[k]'(by omega)):=c6 _;have:=y k _ _ o (c6 w);exact⟨this.new,by rw[this.time];exact dk _⟩
 refine⟨c,D,N,?_⟩
 obtain⟨ak,J,ht,w⟩:=h.tru;obtain⟨i,hi,rfl⟩:=dv.1 J;have A:=c6 hi;have o:s[i]?=c7 (s[i]'(by omega)):=c6 _;obtain⟨r1,r2,y⟩:=L i _ _ A o;obtain⟨a,d,V,Y⟩:=E.a _ (fC o);have R:=(E.c a d).1;have aj:=(W.mX _ J).1.1;refine⟨a,d,by rw[V,r1];exact ht,λk t e=>?_⟩
 have ag:=c9 e;have B:k<n:=by have:=R.1;omega
 have I:b.aA[i].aH[k]?=c7 (b.aA[i].aH[k]'(by omega)):=c6 _;have H:(s[i]'(by omega)).aH[k]?=c7 ((s[i]'(by omega)).aH[k]'(by omega)):=c6 _;have O:=y k _ _ I H;obtain⟨S,ad⟩:=Y k _ t H e;obtain⟨j,ae⟩:=w k _ I;have u:=C.oV k B T F (dk _);have ai:=(N a d t (fC e)).2;have P:t.aa0=T:=by rw[O.time] at S;omega
 have am:=(C.ok k B).L3 T F (dk _);have ah:=j.ok T j.le (dk _);refine⟨?_,λab ac X U Q=>ae ab ac X (by rw[P] at U;have:=j.le;omega) Q⟩
 rw[P];refine ai8 C F B j (j2 (ad _ u.1 u.2) (O.le _ u.1 (by rw[D.pl,af];exact u.2) (by omega)))
def Gh.tick(G:Gh)(T d:Int)(bo:List Int)(f:Nat->Int×Int):Gh:=
 {G with tr:=λk=>(G.tr k).ext T d (f k).1 (f k).2,tp:=λa c=>if c<=T then G.tp a c else if a∈bo then((G.tr (bo.idxOf a)).ext T d (f (bo.idxOf a)).1 (f (bo.idxOf a)).2).pl c else -1}
def agw{c:List Int}(e:c.Nodup){a:Nat}{d:Int}(f:c[a]?=c7 d):c.idxOf d=a:=by
 obtain⟨g,rfl⟩:=ev.1 f;exact e.idxOf_getElem a g
def Ghs.tick(h:Ghs n np G T)(o:0<=T){a:Int}(j:T<a)(u:a<=SM){f:Nat->Int×Int}(l:∀k,k<n->(0<=(f k).1/\(f k).1<(np:Int))/\0<=(f k).2/\(f k).2<=a):Ghs n np (G.tick T a bo f) a:=by
 refine⟨λk c=>(h.ok k c).ext o j u (l k c).2,λk c d w x=>?_⟩
 show 0<=((G.tr k).ext T a (f k).1 (f k).2).pl d/\((G.tr k).ext T a (f k).1 (f k).2).pl d<(np:Int)
 by_cases e:d<=T
 .rw[(Tr.abS e).1];exact h.oV k c d w e
 .by_cases s:d<a
  .rw[(Tr.ab8 (by omega) s).1];exact h.oV k c T o (dk _)
  .have t:d=a:=by omega
   rw[t,(Tr.acW j).1];exact(l k c).1
def aan.tick(E:Ghs n np G T)(C:fM n np b)(h:aan m G T bo b){a:Int}(A:T<a)(u:a<=SM)(w:bo.Nodup){f:Nat->Int×Int}
 (D:∀k,k<n->((f k).1=(G.tr k).pl T/\(f k).2=(G.tr k).L3 T)\/∃z,rL m ((G.tr k).pl T) (f k).1 z/\(G.tr k).L3 T+z<=a/\(f k).2=a):aan m (G.tick T a bo f) a bo b:=by
 refine⟨λo j x l=>⟨(h.wok o j x l).1,by have:=(h.wok o j x l).2;omega⟩,?_⟩
 obtain⟨o,j,ht,y⟩:=h.tru;refine⟨o,j,ht,λk x l=>?_⟩
 obtain⟨B,H⟩:=y k x l;have t:=(C.lt j l).1;refine⟨B.tick (E.ok k t) (h.wok o j x (fC l)).1.2 A u (D k t),λd s c F I=>?_⟩
 show(if c<=T then G.tp d c else if d∈bo then((G.tr (bo.idxOf d)).ext T a (f (bo.idxOf d)).1 (f (bo.idxOf d)).2).pl c else -1)=((G.tr k).ext T a (f k).1 (f k).2).pl c
 by_cases e:c<=T
 .rw[if_pos e,(Tr.abS e).1];exact H d s c F e
 .rw[if_neg e,if_pos (fC s),agw w s]
def aan.now(d:Ghs n np G T)(t:fM n np b)(h:aan m G T bo b)(s:0<=T):∃a,a∈b.aA/\a.aw=bo/\∀k x,a.aH[k]?=c7 x->(G.tr k).pl T∈dz x T:=by
 obtain⟨a,e,ht,u⟩:=h.tru;refine⟨a,e,ht,λk x l=>?_⟩
 obtain⟨j,w⟩:=u k x l;have c:=t.lt e l;have o:=d.oV k c.1 T s (dk _);have y:=(d.ok k c.1).L3 T s (dk _);have:=j.ok T j.le (dk _);exact Sq.2 ⟨o.1,by rw[c.2];exact o.2,by omega⟩
end
def agx{b:ak}(j:cP b){i p:Int}(a:0<=mQ b i p):rL b p (other b i p) (mQ b i p)/\0<=other b i p/\other b i p<(b.ai.length:Int):=by
 by_cases h0:0<=i
 rotate_left
 .unfold mQ at a;rw[if_neg h0] at a;omega
 cases d:b.af[i.toNat]? with
 |none=>unfold mQ at a;rw[if_pos h0,d] at a;dsimp only at a;omega
 |some r=>
  have g:=(j.2.2.2 r (fC d)).1;have h:((i.toNat:Nat):Int)=i:=by omega
  unfold mQ at a⊢;unfold other;rw[if_pos h0,d] at a;rw[if_pos h0,if_pos h0,d];dsimp only at a⊢
  by_cases c:p=r.an
  .rw[if_pos c] at a;rw[if_pos c,if_pos c];exact⟨⟨i.toNat,r,false,d,by rw[h],a,by rw[c];rfl,rfl⟩,g.2.2.1,g.2.2.2.1⟩
  .rw[if_neg c] at a;rw[if_neg c,if_neg c]
   by_cases f:p=r.To
   .rw[if_pos f] at a;rw[if_pos f,if_pos f];exact⟨⟨i.toNat,r,true,d,by rw[h],a,by rw[f];rfl,rfl⟩,g.1,g.2.1⟩
   .rw[if_neg f] at a;omega
def ki.same{m c:ak}{l:List Int}(h:ki m l c){i:Int}(h0:0<=i)(hi:i∉l):c.af[i.toNat]?=m.af[i.toNat]? :=by
 have k:=h.len;cases d:m.af[i.toNat]? with
 |none=>
  have:=List.getElem?_eq_none_iff.1 d;exact h5 (by omega)
 |some r=>
  have:=c9 d;have e:=c6 (l:=c.af) (i:=i.toNat) (by omega);have j:((i.toNat:Nat):Int)=i:=by omega
  rcases h.off i.toNat r _ d e with⟨a,_⟩ |⟨_,a⟩
  .rw[e,a]
  .rw[j] at a;exact absurd a hi
def ki.ad2{m j c:ak}{l:List Int}(h:ki m l j)(o:ki m l c):c=j:=by
 have w:=h.len;have u:=o.len;have e:c.af=j.af:=by
  refine List.ext_getElem? λi=>?_
  by_cases hi:i<m.af.length
  .have er:=c6 hi;have t:=c6 (l:=j.af) (i:=i) (by omega);have a:=c6 (l:=c.af) (i:=i) (by omega);rw[t,a];rcases h.off i _ _ er t with⟨a1,s⟩ |⟨a1,s⟩
   .rcases o.off i _ _ er a with⟨d,k⟩ |⟨d,k⟩
    .rw[a1,d]
    .exact absurd k s
   .rcases o.off i _ _ er a with⟨d,k⟩ |⟨d,k⟩
    .exact absurd s k
    .rw[a1,d]
  .rw[h5 (by omega),h5 (by omega)]
 have a:=h.pl.trans o.pl.symm;cases j;cases c
 dsimp only at e a;rw[e,a]
def ki.arc{m a:ak}{l:List Int}(h:ki m l a){i p:Int}(hi:i∉l)(c:0<=mQ m i p):rL a p (other m i p) (mQ m i p):=by
 by_cases h0:0<=i
 rotate_left
 .unfold mQ at c;rw[if_neg h0] at c;omega
 have d:∀b,wT a i b 6 9 12=wT m i b 6 9 12:=λb=>by
  unfold wT;rw[h.same h0 hi]
  by_cases k:cP m/\0<=i
  .rw[if_pos k,if_pos ⟨adg h,h0⟩];cases m.af[i.toNat]? with
   |none=>rfl
   |some r=>dsimp only;unfold wt T.fy jo;rw[h.pl]
  .exact absurd ⟨h.fN,h0⟩ k
 have j:mQ a i p=mQ m i p:=by
  unfold mQ;rw[h.same h0 hi,d,d]
 have o:other a i p=other m i p:=by
  unfold other;rw[h.same h0 hi]
 have:=(agx (adg h) (i:=i) (p:=p) (by rw[j];exact c)).1;rw[j,o] at this;exact this
structure af7 (x:aB) (G:Gh) (L:Nat) (k:Nat) (rd:aS):Prop where
 lks:aaA (λq=>q∈rd.ai) rd.dX rd.dY G.tp x.aa0 (G.lk k) (G.c k)
 nn:∀i,i<G.c k->0<=(G.lk k i).num/\0<=(G.lk k i).t/\(G.lk k i).num<=2*(L:Int)
 num:∃a l row,x.cn[k]?=c7 a/\x.cf[k]?=c7 l/\x.bp[k]?=c7 row/\((G.c k=0/\a= -1/\l= -1)\/(0<G.c k/\a=(G.lk k (G.c k -1)).num/\l=(G.lk k (G.c k -1)).t))/\
  ∀(i:Nat) X,x.aw[i]?=c7 X->∃v,row[i]?=c7 v/\0<=v/\v<=rd.dY/\(v.toNat<G.c k->G.tp X (G.lk k (G.c k -1 -v.toNat)).t∈rd.ai->X∈(G.lk k (G.c k -1 -v.toNat)).bo)
def Rec(c:List aS)(G:Gh)(a:Nat)(r:aT):Prop:=r.agX=(a:Int)/\∃(b:aS) (i:Nat),c[a]?=c7 b/\i<G.c a/\(G.lk a i).num=r.aj6/\(G.lk a i).bo=r.aw/\(G.lk a i).t -b.cR<=r.aa0/\r.aa0<=(G.lk a i).t+b.cR
structure L4 (n np:Nat) (G:Gh) (L:Nat) (p:aE):Prop where
 gs:Ghs n np G p.au.aa0
 t0:0<=p.au.aa0/\p.au.aa0<=2147483648
 now:∀(k:Nat) w,p.au.aN[k]?=c7 w->(G.tr k).pl p.au.aa0=w.abG/\(0<=w.akw->0<=mQ p.ao w.akw w.abG/\(G.tr k).L3 p.au.aa0+mQ p.ao w.akw w.abG<=p.au.aa0+w.ami)/\aas p.aa2 w.akw
 yp:p.au.aw.length=n/\p.au.aw.Nodup
 off:∀X,X∉p.au.aw->∀u,G.tp X u= -1
 jR:∀(k:Nat) rd,p.au.aQ[k]?=c7 rd->lS np rd/\af7 p.au G L k rd
 abA:∀(k:Nat) r a,p.cq[k]?=c7 r->p.au.cn[k]?=c7 a->0<=a->Rec p.au.aQ G k r
 heard:∀r,r∈p.bZ->∃k:Nat,Rec p.au.aQ G k r
 hZ:aan p.ao G p.au.aa0 p.au.aw p.bw
 je:p.bq.aA≠[]->p.aa2.Out=true/\∃bm,ki p.ao p.aa2.af bm/\aan bm G p.au.aa0 p.au.aw p.bq
section
variable {n np:Nat}{G:Gh}{L:Nat}{p:aE}{e:bH}
def af7.more{x:aB}{k:Nat}{rd:aS}(h:af7 x G L k rd):af7 x G (L+1) k rd:=
 ⟨h.lks,λi hi=>by have:=h.nn i hi;exact⟨this.1,this.2.1,by have:=this.2.2;omega⟩,h.num⟩
def L4.more(h:L4 n np G L p):L4 n np G (L+1) p:={h with jR:=λk rd a=>⟨(h.jR k rd a).1,(h.jR k rd a).2.more⟩}
def L4.car(m:dW n np p)(h:L4 n np G L p){k:Nat}{a:Int}(d:p.au.aw[k]?=c7 a):G.tp a p.au.aa0=(G.tr k).pl p.au.aa0:=by
 obtain⟨c,l,ht,j⟩:=h.hZ.tru;have u:k<n:=by have:=c9 d;have:=h.yp.1;omega
 have t:=(m.hZ.mX c l).1.1;obtain⟨s,o⟩:=j k _ (c6 (show k<c.aH.length by omega));exact o a d _ s.le (dk _)
def aaA.ext{j:Int->Prop}{m l T k:Int}{tp u:Int->Int->Int}{lk:Nat->abc}{c:Nat}(h:aaA j m l tp T lk c)(B:T<=k)(o:∀a d,d<=T->u a d=tp a d):aaA j m l u k lk c:=
 ⟨λi hi=>by have:=h.bG i hi;omega,λi a hi w=>by rw[o a _ (h.bG i hi)];exact h.seen i a hi w,h.adj,λa i hi=>by
  obtain⟨t,y,x,A⟩:=h.win a i hi;exact⟨t,y,x,λs=>A (by rw[o a _ (h.bG t (by omega))] at s;exact s)⟩⟩
def aar(p:aE)(G:Gh)(c:Int)(a:Nat):Int×Int:=match p.au.aN[a]? with
 |some b=>if ¬b.akw<0/\b.ami -c<=0 then(other p.ao b.akw b.abG,p.au.aa0+c) else((G.tr a).pl p.au.aa0,(G.tr a).L3 p.au.aa0)
 |none=>((G.tr a).pl p.au.aa0,(G.tr a).L3 p.au.aa0)
def aas.out{k:bA}(a:ff k)(c:k.Out=true){r:Int}(h:aas k r):r∉k.af:=λd=>by
 obtain⟨i,hi,rfl⟩:=dv.1 d;have o:=a.2.1;have e:=c6 (l:=k.aa2) (i:=i) (by omega);have j:=h i _ (c6 hi) e;have m:=a.2.2.2 c _ (fC e);omega
def asG(k:dW n np p)(f:L4 n np G L p)(ag:fw p.au){c:Int}(h0:0<c)(x:p.au.aa0+c<=2147483648):L4 n np (G.tick p.au.aa0 (p.au.aa0+c) p.au.aw (aar p G c)) L {p with au:=x7 p.au c}:=by
 have F:=f.t0;have S:=k.fN;have aw:=k.gk;have N:∀b,b<n->∃d,p.au.aN[b]?=c7 d/\sq p.ao d:=λb g=>by
  have H:b<p.au.aN.length:=by rw[k.iz];exact g
  exact⟨_,c6 H,by rw[<-S];exact ag.2.2.2.2.2.2.2.2.2 _ (dT H)⟩
 have am:∀b,b<n->0<=(G.tr b).L3 p.au.aa0/\(G.tr b).L3 p.au.aa0<=p.au.aa0:=λb g=>(f.gs.ok b g).L3 _ F.1 (dk _)
 have al:∀b,b<n->(0<=(aar p G c b).1/\(aar p G c b).1<(np:Int))/\0<=(aar p G c b).2/\(aar p G c b).2<=p.au.aa0+c:=λb g=>by
  obtain⟨d,h,ai⟩:=N b g;obtain⟨s,t,r⟩:=f.now b d h;unfold aar;rw[h];dsimp only;have q:=f.gs.oV b g _ F.1 (dk _);have af:=am b g
  split
  .rename_i ak;have:=(agx k.gq (t (by omega)).1).2;exact⟨by dsimp only;omega,by dsimp only;omega,dk _⟩
  .exact⟨q,af.1,by dsimp only;omega⟩
 have M:∀b,b<n->(((aar p G c b).1=(G.tr b).pl p.au.aa0/\(aar p G c b).2=(G.tr b).L3 p.au.aa0)\/∃d,p.au.aN[b]?=c7 d/\0<=d.akw/\0<=mQ p.ao d.akw d.abG/\(aar p G c b).1=other p.ao d.akw d.abG/\(G.tr b).pl p.au.aa0=d.abG/\(G.tr b).L3 p.au.aa0+mQ p.ao d.akw d.abG<=p.au.aa0+c/\(aar p G c b).2=p.au.aa0+c/\aas p.aa2 d.akw):=λb g=>by
  obtain⟨d,h,ai⟩:=N b g;obtain⟨s,t,r⟩:=f.now b d h;unfold aar;rw[h];dsimp only
  split
  .rename_i ak;have:=t (by omega);exact .inr ⟨d,rfl,by omega,this.1,rfl,s,by omega,rfl,r⟩
  .exact .inl ⟨rfl,rfl⟩
 have B:p.au.aa0<p.au.aa0+c:=by omega
 have J:∀j m,m<=p.au.aa0->(G.tick p.au.aa0 (p.au.aa0+c) p.au.aw (aar p G c)).tp j m=G.tp j m:=λj m ae=>if_pos ae
 refine⟨f.gs.tick F.1 B x al,⟨by show 0<=p.au.aa0+c;omega,x⟩,λb an U=>?_,f.yp,λj y m=>?_,λb O W=>?_,f.abA,f.heard,?_,λaa=>?_⟩
 .have o:(p.au.aN.map (uf p.au.ao c))[b]?=c7 an:=U;rw[ef] at o;cases h:p.au.aN[b]? with
  |none=>rw[h] at o;cases o
  |some d=>
   rw[h] at o;injection o with o
   subst o;have g:b<n:=by have:=c9 h;rw[k.iz] at this;exact this
   obtain⟨s,t,r⟩:=f.now b d h;have K:=(Tr.acW (tr:=G.tr b) (p:=(aar p G c b).1) (a:=(aar p G c b).2) B);show((G.tr b).ext p.au.aa0 (p.au.aa0+c) (aar p G c b).1 (aar p G c b).2).pl (p.au.aa0+c)=_/\(_->_/\((G.tr b).ext p.au.aa0 (p.au.aa0+c) (aar p G c b).1 (aar p G c b).2).L3 (p.au.aa0+c)+_<=p.au.aa0+c+_)/\_
   rw[K.1,K.2,S];unfold aar uf;rw[h];dsimp only
   by_cases q:d.akw<0
   .rw[if_neg (by omega),if_pos q];exact⟨s,λl=>absurd l (by omega),r⟩
   .rw[if_neg q]
    by_cases A:d.ami -c<=0
    .rw[if_pos ⟨q,A⟩,if_pos A];refine⟨rfl,λl=>absurd l (show ¬(0:Int)<=-1 by decide),λi z R _=>?_⟩
     have:=(k.jY.mem (fC R)).1;have T:p.aa2.af[i]?=c7 (-1):=R;have:=(k.jY.mem (fC T)).1;omega
    .rw[if_neg (λl=>A l.2),if_neg A];have:=t (by omega);exact⟨s,λ_=>⟨this.1,by dsimp only;omega⟩,r⟩
 .show(if m<=p.au.aa0 then G.tp j m else if j∈p.au.aw then _ else -1)= -1
  rw[if_neg (show j∉p.au.aw from y)]
  split
  .exact f.off j y m
  .rfl
 .obtain⟨Y,w⟩:=f.jR b O W;refine⟨Y,aaA.ext w.lks (by show _<=p.au.aa0+c;omega) J,w.nn,?_⟩
  obtain⟨a,ac,row,aj,ab,ao,ap,ad⟩:=w.num;refine⟨a,ac,row,aj,ab,ao,ap,λi j y=>?_⟩
  obtain⟨v,aq,X,V,ar⟩:=ad i j y;refine⟨v,aq,X,V,λP C=>ar P ?_⟩
  have av:v.toNat<G.c b:=P;have I:(G.tick p.au.aa0 (p.au.aa0+c) p.au.aw (aar p G c)).tp j (G.lk b (G.c b -1 -v.toNat)).t∈O.ai:=C;have u:=w.lks.bG (G.c b -1 -v.toNat) (by omega);rw[J j _ u] at I;exact I
 .refine f.hZ.tick f.gs k.hZ B x f.yp.2 λb g=>?_
  rcases M b g with l |⟨d,h,Z,E,D,w4,w5,w6,w7⟩
  .exact .inl l
  .exact .inr ⟨_,by rw[D,w4];exact(agx k.gq E).1,w5,w6⟩
 .obtain⟨u,ah,Q,C⟩:=f.je aa;refine⟨u,ah,Q,C.tick f.gs k.je B x f.yp.2 λb g=>?_⟩
  rcases M b g with l |⟨d,h,Z,E,D,w4,w5,w6,w7⟩
  .exact .inl l
  .exact .inr ⟨_,by rw[D,w4];exact Q.arc (w7.out k.key u) E,w5,w6⟩
def alj(l:dW n np p)(a:L4 n np G L p){f r i:Int}{d:bC}(v:0<=f)(x:0<=i)(j:p.au.aN[f.toNat]?=c7 d)(k:0<=mQ p.au.ao r d.abG)(s:aas p.aa2 r):L4 n np G L {p with au:={p.au with aN:=p.au.aN.set f.toNat ⟨d.abG,r,mQ p.au.ao r d.abG+i⟩}}:=by
 refine⟨a.gs,a.t0,λc m o=>?_,a.yp,a.off,λc h g=>⟨(a.jR c h g).1,(a.jR c h g).2.lks,(a.jR c h g).2.nn,(a.jR c h g).2.num⟩,a.abA,a.heard,a.hZ,a.je⟩
 have b:(p.au.aN.set f.toNat ⟨d.abG,r,mQ p.au.ao r d.abG+i⟩)[c]?=c7 m:=o;rw[gb] at b
 split at b
 .rename_i e
  split at b
  .injection b with b
   subst b;subst e;obtain⟨u,z,w⟩:=a.now _ d j;have q:f.toNat<n:=by have:=c9 j;rw[l.iz] at this;exact this
   have y:=(a.gs.ok _ q).L3 _ a.t0.1 (dk _);have t:=l.fN;rw[t] at k⊢;exact⟨u,λ_=>⟨k,by dsimp only;omega⟩,s⟩
  .cases b
 .exact a.now c m b
end
section
variable {n np:Nat}{G:Gh}{L:Nat}{p:aE}{e:bH}
def Gh.look(G:Gh)(k:Nat)(x:abc):Gh:={G with lk:=λa i=>if a=k/\i=G.c k then x else G.lk a i,c:=λa=>if a=k then G.c k+1 else G.c a}
def Gh.ae5{G:Gh}{k:Nat}{x:abc}{a i:Nat}(h:a≠k\/i≠G.c k):(G.look k x).lk a i=G.lk a i:=if_neg (by omega)
def Gh.acH{G:Gh}{k:Nat}{x:abc}:(G.look k x).lk k (G.c k)=x:=if_pos ⟨rfl,rfl⟩
def Gh.abU{G:Gh}{k:Nat}{x:abc}:(G.look k x).c k=G.c k+1:=if_pos rfl
def Gh.agk{G:Gh}{k:Nat}{x:abc}{a:Nat}(h:a≠k):(G.look k x).c a=G.c a:=if_neg h
def Rec.look{rs:List aS}{k a:Nat}{x:abc}{r:aT}(h:Rec rs G a r):Rec rs (G.look k x) a r:=by
 obtain⟨j,rd,i,d,s,o,m,l,c⟩:=h;have e:(G.look k x).lk a i=G.lk a i:=Gh.ae5 (by
  by_cases e:a=k
  .subst e;exact .inr (by omega)
  .exact .inl e)
 refine⟨j,rd,i,d,?_,by rw[e];exact o,by rw[e];exact m,by rw[e];exact l,by rw[e];exact c⟩
 by_cases e:a=k
 .subst e;rw[Gh.abU];omega
 .rw[Gh.agk e];exact s
def arU(ad:dW n np p)(d:L4 n np G L p)(ba:L<=1000){a:Nat}{a0:Int}{h:aS}{ac:aB}{r:aT}(x:cf p.au a a0 h ac r):∃a1,L4 n np a1 (L+1) {p with au:=ac,cq:=p.cq.set a r}:=by
 obtain⟨row,U,af,y,ag,N,P,ai,O,aI,aR,a8,aM,aY⟩:=x.ex;obtain⟨am,s⟩:=d.jR a h x.eZ;obtain⟨a4,bb,bd,E,F,B,an,aa⟩:=s.num;rw[P] at E;injection E with E;subst E
 rw[ai] at F;injection F with F;subst F
 rw[N] at B;injection B with B;subst B
 have aH:=d.t0;have a6:=x.QX;have D:r.aj6=y+(if 0<=ag/\h.dX<p.au.aa0 -ag then 2 else 1)/\-1<=y/\y<=2*(L:Int):=by
  have av: -1<=y/\y<=2*(L:Int):=by
   rcases an with⟨_,q,_⟩ |⟨a5,q,_⟩
   .omega
   .have:=s.nn (G.c a -1) (by omega);omega
  refine⟨?_,av⟩
  rw[aI]
  split <;> exact j3 (by omega) (by omega)
 obtain⟨D,a9⟩:=D;have aq:0<=r.aj6/\r.aj6<=2*(L:Int)+2:=by rw[D];split <;> omega
 have W:∀c,c∈r.aw↔c∈af:=λc=>by rw[aM];exact(uK af).mem_iff
 let w:abc:=⟨p.au.aa0,r.aj6,r.aw⟩
 have T:∀{i:Nat} {j:bC} {c:Int},p.au.aN[i]?=c7 j->p.au.aw[i]?=c7 c->G.tp c p.au.aa0=j.abG:=λ{i j c} k g=>by rw[d.car ad g,(d.now i j k).1]
 have al:∀{i:Nat} {c:Int},p.au.aw[i]?=c7 c->∃j,p.au.aN[i]?=c7 j:=λ{i c} g=>by
  have N:=c9 g;have P:=d.yp.1;exact⟨_,c6 (show i<p.au.aN.length by rw[ad.iz];omega)⟩
 have ay:=am.2.2.2.1;have aZ:aaA (λq=>q∈h.ai) h.dX h.dY G.tp p.au.aa0 (λi=>if i=G.c a then w else G.lk a i) (G.c a+1):=by
  refine s.lks.look rfl (λc g=>?_) (λX aF az=>?_) (λc aF=>?_)
  .obtain⟨i,j,k,u,z⟩:=O.tag c ((W c).1 g);rw[T k u];exact z
  .rcases an with⟨q,_⟩ |⟨_,aV,ql⟩
   .omega
   .have a7:=s.nn (G.c a -1) (by omega);have ak:=s.lks.bG (G.c a -1) (by omega);show(r.aj6=X.num+1/\p.au.aa0 -X.t<=h.dX)\/r.aj6=X.num+2
    rw[az, <-aV, <-ql,D]
    split
    .exact .inr rfl
    .exact .inl ⟨rfl,by omega⟩
  .by_cases g:c∈p.au.aw
   .obtain⟨i,t,rfl⟩:=dv.1 g;have u:=c6 t;obtain⟨j,k⟩:=al u;obtain⟨v,K,J,Q,V⟩:=O.Hg i j _ k u;obtain⟨aE,l,a2,aQ,S⟩:=aa i _ u;rw[J] at l;injection l with l;subst l
    rcases V with⟨_,z⟩ |⟨I,ah⟩
    .refine⟨G.c a,by omega,ga _,λf=>?_⟩
     rw[if_pos rfl] at f⊢;have m:G.tp p.au.aw[i] p.au.aa0∈h.ai:=f;rw[T k u] at m;exact(W _).2 (z m)
    .refine⟨G.c a -1 -v.toNat,by omega,by omega,λf=>?_⟩
     rw[if_neg (by omega)] at f⊢;exact S (by omega) f
   .refine⟨G.c a,by omega,ga _,λf=>?_⟩
    rw[if_pos rfl] at f;have m:G.tp c p.au.aa0∈h.ai:=f;rw[d.off c g] at m;have:=(am.2.1.mem m).1;omega
 have ap:(G.look a w).lk a=λi=>if i=G.c a then w else G.lk a i:=by
  funext i
  show(if a=a/\i=G.c a then w else G.lk a i)=_
  by_cases e:i=G.c a
  .rw[if_pos ⟨rfl,e⟩,if_pos e]
  .rw[if_neg (λaX=>e aX.2),if_neg e]
 refine⟨G.look a w,?_⟩
 subst aY;refine⟨⟨d.gs.ok,d.gs.oV⟩,d.t0,d.now,d.yp,d.off,λb ae ab=>?_,λb A C R ao h0=>?_,λA R=>?_,⟨d.hZ.wok,d.hZ.tru⟩,λaJ=>?_⟩
 .obtain⟨aK,Z⟩:=d.jR b ae ab;refine⟨aK,?_⟩
  by_cases e:b=a
  .subst e;have H:p.au.aQ[b]?=c7 ae:=ab;rw[x.eZ] at H;injection H with H
   subst H;refine⟨by rw[ap,Gh.abU];exact aZ,λi t=>?_,?_⟩
   .rw[Gh.abU] at t
    by_cases e:i=G.c b
    .subst e;rw[Gh.acH];exact⟨aq.1,aH.1,by show r.aj6<=_;omega⟩
    .rw[Gh.ae5 (.inr e)];have:=s.nn i (by omega);exact⟨this.1,this.2.1,by omega⟩
   .have ax:=c9 P;have aA:=c9 ai;have aC:=c9 N;refine⟨r.aj6,p.au.aa0,U,by show(p.au.cn.set b r.aj6)[b]?=_;rw[eo ax],by show(p.au.cf.set b _)[b]?=_;rw[eo aA],by show(p.au.bp.set b U)[b]?=_;rw[eo aC],.inr ⟨by rw[Gh.abU];omega,?_,?_⟩,λi c g=>?_⟩
    .rw[Gh.abU,ie,Gh.acH]
    .rw[Gh.abU,ie,Gh.acH]
    .have g:p.au.aw[i]?=c7 c:=g;obtain⟨j,k⟩:=al g;obtain⟨v,K,J,Q,V⟩:=O.Hg i j _ k g;obtain⟨aE,l,a2,aQ,S⟩:=aa i _ g;rw[J] at l;injection l with l;subst l
     rw[Gh.abU];rcases V with⟨I,z⟩ |⟨I,ah⟩
     .subst I;refine⟨0,Q,dk _,ay.1,λ_ f=>?_⟩
      have M:G.c b+1 -1 - (0:Int).toNat=G.c b:=by simp
      rw[M,Gh.acH] at f⊢;have m:G.tp c p.au.aa0∈h.ai:=f;rw[T k g] at m;exact(W _).2 (z m)
     .refine⟨K,Q,by omega,ah,λbc f=>?_⟩
      have M:G.c b+1 -1 -K.toNat=G.c b -1 -v.toNat:=by omega
      rw[M,Gh.ae5 (.inr (by omega))] at f⊢;exact S (by omega) f
  .have Y:(G.look a w).lk b=G.lk b:=by funext i;exact Gh.ae5 (.inl e)
   obtain⟨C,ar,aN,aP,aD,a3,aU,aL⟩:=Z.num;refine⟨by rw[Y,Gh.agk e];exact Z.lks,λi t=>?_,?_⟩
   .rw[Y];rw[Gh.agk e] at t;have:=Z.nn i t;exact⟨this.1,this.2.1,by omega⟩
   .rw[Y,Gh.agk e];exact⟨C,ar,aN,by show(p.au.cn.set a r.aj6)[b]?=_;rw[ei (j9 e)];exact aP,by show(p.au.cf.set a _)[b]?=_;rw[ei (j9 e)];exact aD,by show(p.au.bp.set a U)[b]?=_;rw[ei (j9 e)];exact a3,aU,aL⟩
 .have o:(p.cq.set a r)[b]?=c7 A:=R;have aj:(p.au.cn.set a r.aj6)[b]?=c7 C:=ao
  by_cases e:b=a
  .subst e;have lj:=c9 o;rw[e0] at lj;rw[eo lj] at o;injection o with o
   subst o;refine⟨aR,h,G.c b,x.eZ,by rw[Gh.abU];omega,?_,?_,?_,?_⟩
   .rw[Gh.acH]
   .rw[Gh.acH]
   .rw[Gh.acH];show p.au.aa0 -h.cR<=r.aa0;omega
   .rw[Gh.acH];show r.aa0<=p.au.aa0+h.cR;omega
  .rw[ei (j9 e)] at o aj;exact(d.abA b A C o aj h0).look
 .obtain⟨b,aG⟩:=d.heard A R;exact⟨b,aG.look⟩
 .obtain⟨ak,aO,aw,f⟩:=d.je aJ;exact⟨ak,aO,aw,f.wok,f.tru⟩
def aq5{c:List aS}{a:Nat}{r:aT}(f:∃b:Nat,Rec c G b r)(g:r.agX=(a:Int)):Rec c G a r:=by
 obtain⟨b,d⟩:=f;have:=d.1;have e:b=a:=by omega
 rw[<-e];exact d
def asF(u:dW n np p)(d:L4 n np G L p)(a4:L<=1000){c:Nat}{h ab:aS}{r:aT}{num:Int}{H:List aT}{au:cZ}{b s:aL}(aP:p.au.cn[c]?=c7 num)(aB:0<=num)(aH:p.cq[c]?=c7 r)(R:p.au.aQ[c]?=c7 ab)(T:p.au.aQ[r.agX.toNat]?=c7 h)(aN:∃ao,H=(p.bZ++[r]).drop ao)(l:fv p.ao p.aa2.af p.au.aa0 h ab r H (c:Int) p.bw p.bq b s):
 L4 n np G L {p with bZ:=H,cW:=au,bw:=b,bq:=s}:=by
 have af:=d.abA c r num aH aP aB;have aK:h=ab:=by
  have e:=af.1;have aA:r.agX.toNat=c:=by omega
  rw[aA,R] at T;injection T with T
  exact T.symm
 subst aK;have ap:∀g,g∈H->∃a:Nat,Rec p.au.aQ G a g:=λg aD=>by
  obtain⟨ao,rfl⟩:=aN;rcases ec.1 (h6 aD) with v |v
  .exact d.heard g v
  .rw[e4] at v;rw[v];exact⟨c,af⟩
 obtain⟨aq,C⟩:=d.jR c h R;have aY:=d.t0;have al:∀{o:dS},DS r h o->∃Lk,o.an<=Lk/\Lk<=min o.To p.au.aa0/\G.tp o.Tag Lk∈h.ai:=λ{o} x=>by
  obtain⟨aG,a6,a1⟩:=x;obtain⟨_,D,i,m,K,ai,ac,r6,r7⟩:=af;rw[R] at m;injection m with m;subst m
  have aU:=C.nn i K;have U:=C.lks.bG i K;exact⟨(G.lk c i).t,by omega,by omega,C.lks.seen i _ K (by rw[ac];exact aG)⟩
 have an:∀{q:Int} {w:dC},nc H (c:Int) q h w->∀s s',w.an<=s->s'<=min w.To p.au.aa0->s<=s'->(∀V,s<=V->V<=s'->G.tp q V∈h.ai)->s' -s<=(h.dY+1)*h.dX:=λ{q w} k s s' aZ a7 a2 aJ=>by
  obtain⟨run,au,a5,⟨aj,aI⟩,ar,ay,aV,aR⟩:=k;have a0:=c9 ar;have ad:∀a,a<run.length->∃i g,run[a]?=c7 g/\i<G.c c/\(G.lk c i).num=g.aj6/\(G.lk c i).bo=g.aw/\(G.lk c i).t -h.cR<=g.aa0/\g.aa0<=(G.lk c i).t+h.cR:=λa f=>by
   have ak:=aj _ (dT f);obtain⟨_,D,i,m,K,ai,ac,r6,r7⟩:=aq5 (ap _ ak.1) ak.2.1;rw[R] at m;injection m with m;subst m
   exact⟨i,_,c6 f,K,ai,ac,r6,r7⟩
  let z:Nat->Nat:=λa=>if f:a<run.length then(ad a f).choose else 0
  have E:∀a (f:a<run.length),∃g,run[a]?=c7 g/\z a<G.c c/\(G.lk c (z a)).num=g.aj6/\(G.lk c (z a)).bo=g.aw/\(G.lk c (z a)).t -h.cR<=g.aa0/\g.aa0<=(G.lk c (z a)).t+h.cR:=λa f=>by
   have e:z a=(ad a f).choose:=dif_pos f;rw[e];exact(ad a f).choose_spec
  refine C.lks.agP (X:=q) (by have:=aq.2.2.1;omega) aq.2.2.2.1.1 z (run.length -1) (λa f=>?_) (λa f=>?_) (λa f=>?_) (s:=s) (s':=s') ?_ ?_ aJ
  .obtain⟨_,_,v,_⟩:=E a (by omega);exact v
  .obtain⟨J,j,Q,I,_⟩:=E a (by omega);obtain⟨m,aF,az,aE,_⟩:=E (a+1) (by omega);have v:=aI a J m j aF;have aC:=C.nn _ Q;have aX:=C.nn _ az;rw[I,aE,v];rw[I] at aC;exact j3 (by omega) (by omega)
  .obtain⟨J,j,Q,I,aa,_⟩:=E a (by omega);rw[aa];exact(aj J (fC j)).2.2
  .obtain⟨J,j,Q,I,aa,aM,av⟩:=E 0 (by omega);rw[ar] at j;injection j with j;subst j
   omega
  .obtain⟨J,j,Q,I,aa,aM,av⟩:=E (run.length -1) (by omega);rw[ay] at j;injection j with j;subst j
   omega
 have am:fM n np b/\fM n np s/\aan p.ao G p.au.aa0 p.au.aw b/\(s.aA≠[]->p.aa2.Out=true/\∃F,ki p.ao p.aa2.af F/\aan F G p.au.aa0 p.au.aw s):=by
  have S:∀{b s:aL},fv p.ao p.aa2.af p.au.aa0 h h r H (c:Int) p.bw p.bq b s->fM n np b/\fM n np s:=λ{b s} l=>by
   obtain⟨⟨aO,aQ⟩,ax,a3⟩:=l.shape u.gk u.hZ u.bne u.je;exact⟨aO,ax⟩
  induction l with
  |nil=>exact⟨u.hZ,u.je,d.hZ,d.je⟩
  |Ls o l x k A=>
   obtain⟨N,P,y,B⟩:=A;obtain⟨Lk,ah,ae,Y⟩:=al x;have:=S (l.Ls o x k);exact⟨this.1,this.2,y.Ls d.gs N ah ae (by omega) Y k,B⟩
  |Lt o F l x M t k A=>
   obtain⟨N,P,y,B⟩:=A;obtain⟨Lk,ah,ae,Y⟩:=al x;have:=S (l.Lt o F x M t k);obtain⟨U,aw,ag,Z⟩:=B M;have e:=ag.ad2 t;subst e;exact⟨this.1,this.2,y,λ_=>⟨U,_,t,Z.Ls d.gs P ah ae (by omega) Y k⟩⟩
  |abs q w l W O k A=>
   obtain⟨N,P,y,B⟩:=A;have:=S (l.abs q w W O k);exact⟨this.1,this.2,y.abs d.gs N u.gk (by omega) (an O) k,B⟩
  |Lu q w F l W O M t k A=>
   obtain⟨N,P,y,B⟩:=A;have:=S (l.Lu q w F W O M t k);obtain⟨U,aw,ag,Z⟩:=B M;have e:=ag.ad2 t;subst e;exact⟨this.1,this.2,y,λ_=>⟨U,_,t,Z.abs d.gs P (by rw[t.pl];exact u.gk) (by omega) (an O) k⟩⟩
 exact⟨d.gs,d.t0,d.now,d.yp,d.off,λa D f=>⟨(d.jR a D f).1,(d.jR a D f).2.lks,(d.jR a D f).2.nn,(d.jR a D f).2.num⟩,d.abA,ap,am.2.2.1,am.2.2.2⟩
end
section
variable {n np:Nat}{G:Gh}{L:Nat}{p:aE}{e:bH}
def L4.alter(h:L4 n np G L p){q:aE}(a:q.au=p.au)(c:q.ao=p.ao)(d:q.aa2=p.aa2)(w:q.cq=p.cq)(x:q.bZ=p.bZ)(s:q.bw=p.bw)(k:q.bq=p.bq):L4 n np G L q:=by
 obtain⟨a1,y,o,m,l,A,t,a8,j,u⟩:=h;exact⟨by rw[a];exact a1,by rw[a];exact y,by rw[a,c,d];exact o,by rw[a];exact m,by rw[a];exact l,by rw[a];exact A,by rw[a,w];exact t,by rw[a,x];exact a8,by rw[a,c,s];exact j,by rw[a,c,d,k];exact u⟩
def asv{f:List Int}{i b:Int}(d:0<=i/\i<(f.length:Int))(c:0<=b/\b<(f.length:Int)){j:Int}:j∈gL i b f↔j∈f:=by
 constructor
 .intro g;obtain⟨a,h,rfl⟩:=dv.1 g;have e:=c6 h;rw[acL d c] at e
  split at e
  .exact fC e
  .split at e
   .exact fC e
   .exact fC e
 .intro g;obtain⟨a,h,rfl⟩:=dv.1 g;have ek:=c6 h
  by_cases m:(a:Int)=i
  .have:=acL d c b.toNat;rw[if_pos (by omega),show i.toNat=a by omega,ek] at this;exact fC this
  .by_cases l:(a:Int)=b
   .have:=acL d c i.toNat
    by_cases k:((i.toNat:Nat):Int)=b
    .rw[if_pos k,show i.toNat=a by omega,ek] at this;exact fC this
    .rw[if_neg k,if_pos (by omega),show b.toNat=a by omega,ek] at this;exact fC this
   .have:=acL d c a;rw[if_neg l,if_neg m,ek] at this;exact fC this
def arK{g:List Int}:g.Nodup↔∀(i a:Nat) d,g[i]?=c7 d->g[a]?=c7 d->i=a:=by
 constructor
 .intro b i a d f c;rw[<-agw b f,agw b c]
 .intro b;unfold List.Nodup;rw[hI];intro i a f c j h;have:=b i a _ (c6 f) (by rw[c6 c,h]);omega
def aql{f:List Int}{i k:Int}(r:0<=i/\i<(f.length:Int))(o:0<=k/\k<(f.length:Int))(l:f.Nodup):(gL i k f).Nodup:=by
 rw[arK] at l⊢;intro s b j c a;rw[acL r o] at c a;have d:∀g h:Nat,f[g]?=c7 j->f[h]?=c7 j->g=h:=λg h m q=>l g h j m q
 split at c
 .split at a
  .omega
  .split at a
   .have:=d _ _ c a;omega
   .have:=d _ _ c a;omega
 .split at c
  .split at a
   .have:=d _ _ c a;omega
   .split at a
    .omega
    .have:=d _ _ c a;omega
  .split at a
   .have:=d _ _ c a;omega
   .split at a
    .have:=d _ _ c a;omega
    .exact d _ _ c a
def aqT(h:dW n np p)(c:L4 n np G L p){i a:Int}{t w:bC}{b j:aL}(ah:0<=i/\i<(p.au.aN.length:Int))(aj:0<=a/\a<(p.au.aN.length:Int))(Z:p.au.aN[i.toNat]?=c7 t)(J:p.au.aN[a.toNat]?=c7 w)(Q:t.abG=w.abG)
 (C:AY p.ao i a p.au.aa0 p.au.aN.length p.ao.ai.length p.bw b) (V:(p.bq.aA=[]/\j=p.bq)\/∃u,p.bq.aA≠[]/\ki p.ao p.aa2.af u/\AY u i a p.au.aa0 p.au.aN.length p.ao.ai.length p.bq j):
 L4 n np G L {p with au:={p.au with aw:=gL i a p.au.aw,bp:=p.au.bp.map (gL i a)},bw:=b,bq:=j}:=by
 have aa:=c.yp.1;have y:=h.iz;have l:0<=i/\i<(p.au.aw.length:Int):=by omega
 have x:0<=a/\a<(p.au.aw.length:Int):=by omega
 have E:(G.tr i.toNat).pl p.au.aa0=(G.tr a.toNat).pl p.au.aa0:=by rw[(c.now _ t Z).1,(c.now _ w J).1,Q]
 rw[y,h.gk] at C;refine⟨c.gs,c.t0,c.now,⟨by show(gL i a p.au.aw).length=n;rw[akY];exact aa,aql l x c.yp.2⟩,λf s W=>c.off f (λS=>s ((asv l x).2 S)) W,λB Y K=>?_,c.abA,c.heard,c.hZ.Np c.gs h.hZ c.t0 E C,λT=>?_⟩
 .obtain⟨R,o⟩:=c.jR B Y K;refine⟨R,o.lks,o.nn,?_⟩
  obtain⟨ae,X,row,ab,U,ac,ad,k⟩:=o.num;refine⟨ae,X,gL i a row,ab,U,by show(p.au.bp.map (gL i a))[B]?=_;rw[ef,ac];rfl,ad,λq f s=>?_⟩
  have d:(gL i a p.au.aw)[q]?=c7 f:=s;have A:∀g:Nat,g<n->g<row.length:=λg ai=>by
   obtain⟨v,af,_⟩:=k g _ (c6 (show g<p.au.aw.length by omega));exact c9 af
  have N:0<=i/\i<(row.length:Int):=by have:=A i.toNat (by omega);omega
  have M:0<=a/\a<(row.length:Int):=by have:=A a.toNat (by omega);omega
  rw[acL l x] at d;rw[acL N M]
  by_cases H:(q:Int)=a
  .rw[if_pos H] at d⊢;exact k _ f d
  .rw[if_neg H] at d⊢
   by_cases I:(q:Int)=i
   .rw[if_pos I] at d⊢;exact k _ f d
   .rw[if_neg I] at d⊢;exact k _ f d
 .have z:j.aA≠[]:=T;rcases V with⟨r,m⟩ |⟨u,r,m,F⟩
  .rw[m] at z;exact absurd r z
  .rw[y,h.gk] at F;obtain⟨P,ag,D,O⟩:=c.je r;have e:=D.ad2 m;subst e;exact⟨P,_,D,O.Np c.gs h.je c.t0 E F⟩
def ahz{a:bA}{f:Int}(j:a.aa2=p.aa2.aa2.set f.toNat 2)(k:a.af=p.aa2.af){b:bC}(g:aas p.aa2 b.akw)(h:∀r,p.aa2.af[f.toNat]?=c7 r->b.akw≠r):aas a b.akw:=λi z d c=>by
 rw[k] at d;rw[j,gb] at c
 split at c
 .rename_i e;subst e;exact absurd rfl (h _ d)
 .exact g i z d c
def arz(c:L4 n np G L p)(b:p.aa2.Out=false):p.bq.aA=[]:=Classical.byContradiction λa=>by
 have:=(c.je a).1;rw[b] at this;cases this
def asx(d:dW n np p){b:bA}(c:b.af=p.aa2.af):aas b (-1):=λi z a _=>by
 rw[c] at a;have:=(d.jY.mem (fC a)).1;omega
def ara{a:ak}{c i q:Int}(g:cP a)(f:cP (cY a c))(h:i≠c)(j:0<=c):mQ (cY a c) i q=mQ a i q:=by
 unfold mQ
 by_cases h0:0<=i
 rotate_left
 .rw[if_neg h0,if_neg h0]
 rw[if_pos h0,if_pos h0];have d:(cY a c).af[i.toNat]?=a.af[i.toNat]? :=by
  unfold cY;dsimp only
  split
  .rw[ei (by omega)]
  .rfl
 have ew:∀b,wT (cY a c) i b 6 9 12=wT a i b 6 9 12:=λb=>by
  unfold wT;rw[if_pos ⟨f,h0⟩,if_pos ⟨g,h0⟩,d]
  rfl
 rw[d,ew,ew]
def ajN(g:dW n np p)(a:L4 n np G L p){c:Int}(B:0<=c){t:aE}(F:oP {p with au:={p.au with ao:=cY p.au.ao c,aN:=p.au.aN.map (n8 c)}} c t):L4 n np G L t:=by
 obtain⟨b,w,fl,M,D,rfl,_,_,q,C,x,_⟩:=F.ex;have q:cP (cY p.ao c):=q;refine⟨a.gs,a.t0,λl I v=>?_,a.yp,a.off,λi k j=>⟨(a.jR i k j).1,(a.jR i k j).2.lks,(a.jR i k j).2.nn,(a.jR i k j).2.num⟩,a.abA,a.heard,a.hZ.renew a.gs g.hZ a.t0.1 (m':=cY p.ao c) g.gk C,λA=>?_⟩
 .have d:(p.au.aN.map (n8 c))[l]?=c7 I:=v;rw[ef] at d;cases r:p.au.aN[l]? with
  |none=>rw[r] at d;cases d
  |some f=>
   rw[r] at d;injection d with d
   subst d;obtain⟨u,J,H⟩:=a.now l f r;unfold n8
   by_cases e:f.akw=c
   .rw[if_pos e];exact⟨u,λo=>absurd o (show ¬(0:Int)<=-1 by decide),asx g rfl⟩
   .rw[if_neg e];refine⟨u,λo=>?_,H⟩
    show 0<=mQ (cY p.ao c) f.akw f.abG/\_+mQ (cY p.ao c) f.akw f.abG<=_
    rw[ara g.gq q e B];exact J o
 .have s:w.aA≠[]:=A;rcases x with⟨m,h⟩ |⟨m,h,E⟩
  .rw[h] at s;exact absurd m s
  .obtain⟨y,K,N,z⟩:=a.je m;exact⟨y,D,h,z.renew a.gs g.je a.t0.1 (by rw[h.pl];exact g.gk) E⟩
def gC.gh(c:dW n np p)(h:L4 n np G L p)(H:L<=1000)(J:fw p.au){I:aE}(E:gC p e I):∃Z,L4 n np Z (L+1) I:=by
 cases E with
 |wait _ _ h0 C=>
  by_cases aa:e.A=0
  .rw[aa,WV J];exact⟨G,L4.more (h.alter rfl rfl rfl rfl rfl rfl rfl)⟩
  .exact⟨_,(asG c h J (by omega) C).more⟩
 |walk d _ _ l D a _ S W=>exact⟨G,(alj c h l D.1 a S W).more⟩
 |look k rd ab r _ _ m=>exact arU c h H m
 |JE k rs rd r num E x b s _ _ o U j _ eZ X T _ _ D=>exact⟨G,(asF c h H o U j eZ X T D).more⟩
 |swap x b s d ac _ _ hi Y _ a M Q V R A=>
  subst V;exact⟨G,(aqT c h hi Y a M Q R A).more⟩
 |JD=>exact⟨G,L4.more (h.alter rfl rfl rfl rfl rfl rfl rfl)⟩
 |guard k _ j w B F _ _ o=>
  refine⟨G,L4.more ⟨h.gs,h.t0,λq d a=>?_,h.yp,h.off,h.jR,h.abA,h.heard,h.hZ,λy=>absurd (arz h F) y⟩⟩
  obtain⟨t,u,n3⟩:=h.now q d a;exact⟨t,u,ahz w j n3 (o d (fC a))⟩
 |shut k s _ j w _ B F _ _ o A=>
  rw[c.iz,c.gk] at A;refine⟨G,L4.more ⟨h.gs,h.t0,λq d a=>?_,h.yp,h.off,h.jR,h.abA,h.heard,h.hZ,λy=>⟨B,?_⟩⟩⟩
  .obtain⟨t,u,n3⟩:=h.now q d a;exact⟨t,u,ahz w j n3 (o d (fC a))⟩
  .obtain⟨K,C,N⟩:=h.hZ.shut h.gs c.hZ h.t0.1 c.gk A;exact⟨K,by show ki p.ao k.af K;rw[j];exact C,N⟩
 |xX=>exact⟨G,L4.more (h.alter rfl rfl rfl rfl rfl rfl rfl)⟩
 |xZ _ _ _ l _ m=>exact⟨G,(ajN c h l m).more⟩
 |xY _ _ _ _ _ _ _ l _ m=>exact⟨G,(ajN c h l m).more⟩
 |JF k st _ j w B O _=>
  refine⟨G,L4.more ⟨h.gs,h.t0,λq d a=>?_,h.yp,h.off,h.jR,h.abA,h.heard,h.hZ,λy=>absurd rfl y⟩⟩
  obtain⟨t,u,n3⟩:=h.now q d a;exact⟨t,u,λi z _ P=>O z (fC P)⟩
def oA.gh(j:dW n np p)(h:L4 n np G p.bB.length p){d:aE}{c:Int}(l:oA p e d c):∃a,L4 n np a d.bB.length d:=by
 cases l with
 |no=>exact⟨G,h⟩
 |bad al nm _ _ _ _ _ _=>
  refine⟨G,?_⟩
  show L4 n np G (p.bB++[_]).length _
  rw[ea];exact L4.more (h.alter rfl rfl rfl rfl rfl rfl rfl)
 |zI q nm k _ s o=>
  obtain⟨a,m⟩:=k.gh j h (by omega) o;refine⟨a,?_⟩
  show L4 n np a (p.bB++[_]).length _
  rw[ea];exact m.alter rfl rfl rfl rfl rfl rfl rfl
def vD.gh{s:gM}(o:yJ s)(h:vD s p):∃G,L4 s.ai.length s.ao.ai.length G p.bB.length p:=by
 obtain⟨x,b,X,rfl,_,S,_⟩:=h.ex;obtain⟨wh,rfl,W,K⟩:=S.ex;have E:=o.tg;have N:=o.pl;have D:∀k,k<s.ai.length->s.ai[k]?=c7 (s.ai.getD k 0)/\0<=s.ai.getD k 0/\s.ai.getD k 0<(s.ao.ai.length:Int):=λk l=>by
  have e:=c6 l;rw[pu e];exact⟨e,N.2 _ (dT l)⟩
 refine⟨⟨λk=>⟨λ_=>s.ai.getD k 0,λ_=>0⟩,λc _=>if c∈s.aw then s.ai.getD (s.aw.idxOf c) 0 else -1,λ_ _=>⟨0,0,[]⟩,λ_=>0⟩,⟨λk l=>⟨by show(0:Int)<=SM;decide,λt h0 O=>⟨dk _,h0⟩⟩,λk l t _ _=>(D k l).2⟩,⟨dk _,by show(0:Int)<=_;decide⟩,λk I w=>?_,⟨E.1,E.2.nodup⟩,λc u t=>if_neg u,λk rd eZ=>⟨o.rd.2 rd (fC eZ),?_⟩,λk r a _ R h0=>?_,λr T=>(by cases T),⟨λI w Q y=>?_,⟨⟨s.aw,wh⟩,by simp,rfl,λk Q y=>?_⟩⟩,λP=>absurd rfl P⟩
 .have d:(s.ai.map λq=>bC.mk q (-1) 0)[k]?=c7 I:=w;rw[ef] at d;cases j:s.ai[k]? with
  |none=>rw[j] at d;cases d
  |some q=>
   rw[j] at d;injection d with d
   subst d;refine⟨by show s.ai.getD k 0=q;exact pu j,λB=>absurd B (show ¬(0:Int)<=-1 by decide),λi z hi _=>?_⟩
   have H:s.gZ[i]?=c7 (-1):=hi;have:=(o.br.2.mem (fC H)).1;omega
 .have C:s.aQ[k]?=c7 rd:=eZ;refine⟨⟨λi hi=>absurd hi (gy _),λi c hi=>absurd hi (gy _),λi hi=>absurd hi (gy _),λc i hi=>absurd hi (gy _)⟩,λi hi=>absurd hi (gy _),-1,-1,ee s.ai.length 0,?_,?_,?_,.inl ⟨rfl,rfl,rfl⟩,λi c u=>⟨0,?_,dk _,(o.rd.2 rd (fC eZ)).2.2.2.1.1,λB=>absurd B (gy _)⟩⟩
  .show(s.aQ.map λ_=>(-1:Int))[k]?=_;rw[ef,C];rfl
  .show(s.aQ.map λ_=>(-1:Int))[k]?=_;rw[ef,C];rfl
  .show(s.aQ.map λ_=>ee s.ai.length (0:Int))[k]?=_;rw[ef,C];rfl
  .have:=c9 u;rw[List.getElem?_replicate,if_pos (by have:i<s.aw.length:=this;omega)]
 .have m:(s.aQ.map λ_=>(-1:Int))[k]?=c7 a:=R;rw[ef] at m;cases j:s.aQ[k]? with
  |none=>rw[j] at m;cases m
  |some q=>
   rw[j] at m;have F:c7 (-1:Int)=c7 a:=m;injection F with F
   omega
 .rw[e4] at w;subst w;obtain⟨i,hi,rfl⟩:=dv.1 y;have H:i<wh.length:=hi;obtain⟨A,M,_⟩:=K i _ _ (c6 hi) (D i (by omega)).1;exact⟨M,by rw[A];exact dk _⟩
 .have l:k<wh.length:=c9 y;obtain⟨A,M,U⟩:=K k _ _ y (D k (by omega)).1;refine⟨⟨by omega,by rw[A];exact dk _,λt O V=>.inl ⟨rfl,rfl⟩,λt _ _=>U⟩,λc u t _ _=>?_⟩
  show(if c∈s.aw then s.ai.getD (s.aw.idxOf c) 0 else -1)=s.ai.getD k 0
  have J:s.aw[k]?=c7 c:=u;rw[if_pos (fC J),agw E.2.nodup J]
end
noncomputable def stp(p:aE)(e:bH):aE×Int:=(w7 LC p e).getD (p,2)
noncomputable def abf(p:aE)(a:List bH):aE:=a.foldl (λp e=>(stp p e).1) p
structure Inv (n np:Nat) (rs:List aS) (p:aE):Prop where
 sh:dW n np p
 gh:∃G,L4 n np G p.bB.length p
 rd:p.au.aQ=rs
 kI:p.bR.dg=[]
def gC.agU{p c:aE}{e:bH}(h:gC p e c):c.bR=p.bR:=by
 cases h with
 |xZ _ _ _ _ _ a=>obtain⟨b,s,fl,sm,d,rfl,_⟩:=a.ex;rfl
 |xY _ _ _ _ _ _ _ _ _ a=>obtain⟨b,s,fl,sm,d,rfl,_⟩:=a.ex;rfl
 |_=>rfl
def oA.agU{p a:aE}{e:bH}{c:Int}(h:oA p e a c):a.bR=p.bR:=by
 cases h with
 |no c _=>rfl
 |bad al nm c _ _ _ _ _=>rfl
 |zI q nm d _ _ _=>exact d.agU
section
variable {n np:Nat}{rs:List aS}{p:aE}{e:bH}
def Inv.step(h:Inv n np rs p)(j:k9 rs.length e):w7 LC p e=c7 (stp p e)/\oA p e (stp p e).1 (stp p e).2/\Inv n np rs (stp p e).1:=by
 have d:J6 p e:=by unfold J6;rw[h.rd];exact j
 obtain⟨l,c,a⟩:=Wq h.sh d;have es:stp p e=l:=by unfold stp;rw[c];rfl
 obtain⟨m,k⟩:=h.gh;rw[es];exact⟨c,a,a.mD h.sh,a.gh h.sh k,a.Gm.trans h.rd,by rw[a.agU];exact h.kI⟩
def arJ(a:List bH):abf p (a++[e])=(stp (abf p a) e).1:=by
 unfold abf;rw[List.foldl_append]
 rfl
def Inv.run(h:Inv n np rs p):∀{l:List bH},(∀e,e∈l->k9 rs.length e)->Inv n np rs (abf p l):=λ{l} a=>by
 unfold abf
 induction l generalizing p with
 |nil=>exact h
 |cons e l d=>exact d (h.step (a e (ih ..))).2.2 λj c=>a j (hX _ c)
def run_eq(d:Inv n np rs p){a:List bH}(b:∀e,e∈a->k9 rs.length e)(l:a.length<=1000000):Rs LC p a=c7 (abf p a):=by
 unfold Rs;have e:=nV (f:=λc=>WT LC a (sN c) (sE c)) a.length (λi=>u16 (abf p (a.take i)) (i:Int)) (lR (abf p a)) (λi h=>by
  have g:=c6 h;have k:Inv n np rs (abf p (a.take i)):=d.run λe j=>b e (List.mem_of_mem_take j)
  show WT LC a (abf p (a.take i)) (i:Int)=_
  unfold WT;rw[aC,bn,g,aa,(k.step (b _ (dT h))).1,aa,aJ,iE g,arJ]
  rfl) (by
  show WT LC a (abf p (a.take a.length)) (a.length:Int)=_
  unfold WT;rw[aG,hq])
 refine(dL e).trans ?_
 show(wc LC (abf p a)).bind _=_
 rw[abi (d.run b).sh.lC]
 rfl
def vD.inv{s:gM}(a:yJ s)(h:vD s p):Inv s.ai.length s.ao.ai.length s.aQ p:=by
 refine⟨h.mD a,h.gh a,?_,?_⟩
 .obtain⟨x,b,c,rfl,_⟩:=h.ex;rfl
 .obtain⟨x,b,c,rfl,_⟩:=h.ex;exact a.es.2.1
end
section
variable {n np:Nat}{rs:List aS}{p:aE}{e:bH}
def L4.aev{u:Gh}{L:Nat}(a:dW n np p)(h:L4 n np u L p){k:Nat}{c:bC}(j:p.au.aN[k]?=c7 c):c.abG∈ld p.bw (k:Int) p.au.aa0:=by
 obtain⟨v,d,ht,t⟩:=h.hZ.now h.gs a.hZ h.t0.1;have s:=c9 j;rw[a.iz] at s;have w:=(a.hZ.mX v d).1.1;have ex:=c6 (show k<v.aH.length by omega);have l:=t k _ ex;rw[(h.now k c j).1] at l;obtain⟨h0,m,o⟩:=Sq.1 l;have:=(a.hZ.lt d ex).2;have:=a.mq;exact RJ.2 ⟨h0,by omega,v,_,d,by omega,by rw[dt];exact ex,m,o⟩
end
def ac1(r b:Int)(a:Nat):Int:=
 if r/32768=b/2^a%2 then r*2%65536 else bits .xor .i64 (r*2%65536) 4129
def adq(b:Int):Nat->Int->Int
 |0,r=>r
 |a+1,r=>adq b a (ac1 r b a)
def abp:List Int->Int->Int
 |[],r=>r
 |b::a,r=>abp a (adq b 8 r)
def adC(a:Nat)(b:a<9223372036854775808):(h9 64 (a:Int)).toNat=a:=by
 rw[BitVec.ofInt_natCast,BitVec.toNat_ofNat];exact Nat.mod_eq_of_lt (by omega)
def aiH(a b:Nat)(d:a<9223372036854775808)(c:b<9223372036854775808):bits .and .i64 (a:Int) (b:Int)=((a &&& b:Nat):Int):=by
 have e:a &&& b<2^63:=Nat.and_lt_two_pow _ (by omega);show c3 c4 ((h9 64 (a:Int) &&& h9 64 (b:Int)).toNat:Int)=_
 rw[BitVec.toNat_and,adC a d,adC b c,hM];omega
def ash(a b:Nat)(d:a<9223372036854775808)(c:b<9223372036854775808):bits .xor .i64 (a:Int) (b:Int)=((a ^^^ b:Nat):Int):=by
 have e:a ^^^ b<2^63:=j1 (by omega) (by omega);show c3 c4 ((h9 64 (a:Int) ^^^ h9 64 (b:Int)).toNat:Int)=_
 rw[BitVec.toNat_xor,adC a d,adC b c,hM];omega
def ao2(a b:Nat)(d:a<9223372036854775808)(c:b<9223372036854775808):bits .or .i64 (a:Int) (b:Int)=((a ||| b:Nat):Int):=by
 have e:a ||| b<2^63:=Nat.or_lt_two_pow (by omega) (by omega);show c3 c4 ((h9 64 (a:Int) ||| h9 64 (b:Int)).toNat:Int)=_
 rw[BitVec.toNat_or,adC a d,adC b c,hM];omega
def asd(a:Int)(h0:0<=a)(c:a<=1000000):bits .and .i64 a 65535=a%65536:=by
 obtain⟨b,rfl⟩:=eE h0;rw[show(65535:Int)=((65535:Nat):Int) from rfl,aiH b 65535 (by omega) (by omega),show(65535:Nat)=2^16 -1 from rfl,Nat.and_two_pow_sub_one_eq_mod];omega
def asU(a:Int)(h0:0<=a)(c:a<=1000000):bits .and .i64 a 1=a%2:=by
 obtain⟨b,rfl⟩:=eE h0;rw[show(1:Int)=((1:Nat):Int) from rfl,aiH b 1 (by omega) (by omega),Nat.and_one_is_mod];omega
def arB(a:Int)(h0:0<=a)(c:a<=65535):0<=bits .xor .i64 a 4129/\bits .xor .i64 a 4129<=65535:=by
 obtain⟨b,rfl⟩:=eE h0;rw[show(4129:Int)=((4129:Nat):Int) from rfl,ash b 4129 (by omega) (by omega)];have:b ^^^ 4129<2^16:=j1 (by omega) (by omega);omega
def agz(r c:Int)(a:Nat)(h0:0<=r)(d:r<=65535):0<=ac1 r c a/\ac1 r c a<=65535:=by
 unfold ac1;have b:=arB (r*2%65536) (by omega) (by omega)
 split
 .omega
 .exact b
def afl(b:Int):∀(a:Nat) (r:Int),0<=r->r<=65535->0<=adq b a r/\adq b a r<=65535
 |0,r,h0,c=>⟨h0,c⟩
 |a+1,r,h0,c=>afl b a _ (agz r b a h0 c).1 (agz r b a h0 c).2
def ago:∀(a:List Int) (r:Int),0<=r->r<=65535->0<=abp a r/\abp a r<=65535
 |[],r,h0,c=>⟨h0,c⟩
 |b::a,r,h0,c=>ago a _ (afl b 8 r h0 c).1 (afl b 8 r h0 c).2
def asz(a:Int)(b:Nat)(h0:0<=a)(c:a<=255):a.fdiv (2^b)=a/2^b/\0<=a/2^b/\a/2^b<=255:=by
 have d:(0:Int)<2^b:=Int.pow_pos (by decide);refine⟨h7 _ (by omega),Int.ediv_nonneg h0 (by omega),?_⟩
 exact j2 (Int.ediv_le_self _ h0) c
def aiR(b:Int)(g:0<=b)(h:b<=255):∀(a:Nat) (r:Int),a<=8->0<=r->r<=65535->bO (λe:Int×Int=>ad7 LC b e.1 e.2) (r,(a:Int) -1)=c7 (adq b a r)
 |0,r,_,h0,d=>fZ (by dsimp only;unfold ad7;rw[aG (by simp)];rfl)
 |a+1,r,p,h0,d=>by
  obtain⟨j,i,o⟩:=asz b a g h;have f:=agz r b a h0 d;have l:=aiR b g h a (ac1 r b a) (by omega) f.1 f.2;rw[iO (a':=(ac1 r b a,(a:Int) -1)),l]
  .rfl
  .have m:((a+1:Nat):Int) -1=(a:Int):=by omega
   have k:(2:Int)^ (min ((a:Int)).toNat (hQ).bits)=2^a:=by rw[dt,Nat.min_eq_left];show a<=8;omega
   dsimp only;rw[m];unfold ad7;rw[aC,AD (by decide),aa,ahO (by decide),aa,mB (by omega) (by omega),AD (by omega),aa,k,j,show(2:Int)^ (min (15:Int).toNat (IntKind.i64).bits)=32768 from rfl,show(2:Int)^ (min (1:Int).toNat (IntKind.i64).bits)=2 from rfl,h7 _ (by decide),aJ (n:=b/2^a),asU _ i (by omega),aJ (n:=r*2),asd _ (by omega) (by omega),aJ (n:=(a:Int) -1)];unfold ac1
   by_cases c:r/32768=b/2^a%2
   .rw[aG,if_pos c];rfl
   .rw[aC c,if_neg c];rfl
def ajk(a:List Int)(m:Bytes a)(n:a.length<=4611686018427387904):adT LC a=c7 (abp a 65535):=by
 have k:∀(c:Nat) (i:Nat) (r:Int),i+c=a.length->0<=r->r<=65535->bO (λb:Int×Int=>aeb LC a b.1 b.2) (r,(i:Int))=c7 (abp (a.drop i) r):=by
  intro c
  induction c with
  |zero=>
   intro i r l _ _;rw[List.drop_of_length_le (by omega)];exact fZ (by dsimp only;unfold aeb;rw[aG];rfl)
  |succ c h=>
   intro i r l h0 e;have d:i<a.length:=by omega
   have g:=m a[i] (dT d);have f:=afl a[i] 8 r h0 e;have j:=aiR a[i] g.1 g.2 8 r (ga _) h0 e;rw[iO (a':=(adq a[i] 8 r,((i+1:Nat):Int))),h (i+1) _ (by omega) f.1 f.2]
   .rw[List.drop_eq_getElem_cons d];rfl
   .dsimp only;unfold aeb;rw[aC,bn,c6 d,aa];rw[show LC.loop (λb:Int×Int=>ad7 LC a[i] b.1 b.2) (r,7)=c7 (adq a[i] 8 r) from j,aa,aJ]
    rfl
 unfold adT;rw[show LC.loop (λb:Int×Int=>aeb LC a b.1 b.2) (65535,0)=c7 (abp a 65535) from k a.length 0 65535 (by omega) (by omega) (by omega)]
 rfl
def abT{a:List Int}(c:Bytes a)(i:Nat):0<=a.getD i 0/\a.getD i 0<=255:=by
 rw[dd]
 by_cases b:i<a.length
 .rw[c6 b];exact c _ (dT b)
 .rw[h5 (by omega)];exact⟨by decide,by decide⟩
def L5(f:fa):List Int:=[126,(f.Data.length:Int),f.kO,f.abv]
def abK(f:fa):List Int:=L5 f++f.Data++[abp ((L5 f++f.Data).drop 1) 65535/256,abp ((L5 f++f.Data).drop 1) 65535%256]
structure ads (f:fa):Prop where
 a:0<=f.kO/\f.kO<=255
 k:0<=f.abv/\f.abv<=255
 l:f.Data.length<=64
 d:Bytes f.Data
def ars(a:Int):hQ.wrap a=a%256:=by
 unfold IntKind.wrap;simp[IntKind.bits,IntKind.signed]
def aiY{f:fa}(a:ads f):Bytes (L5 f++f.Data):=by
 have:=a.l;unfold L5;exact Bytes.aX (Bytes.cons ⟨by decide,by decide⟩ (Bytes.cons ⟨by omega,by omega⟩ (Bytes.cons a.a (Bytes.cons a.k Bytes.nil)))) a.d
def ahL(f:fa):(abK f).length=f.Data.length+6:=by simp[abK,L5]
def asX{f:fa}(a:ads f):Bytes (abK f):=by
 have b:=ago ((L5 f++f.Data).drop 1) 65535 (by decide) (by decide);exact(aiY a).aX (Bytes.cons ⟨by omega,by omega⟩ (Bytes.cons ⟨by omega,by omega⟩ Bytes.nil))
def aqZ(f:fa)(a:ads f):agu LC f=c7 (abK f,0):=by
 have h:=a.a;have g:=a.k;have i:=a.l;have d:=aiY a;unfold agu;rw[aG,aG,aG,decide_eq_false (by omega),aa,cond_false,aG];have c:([126,hQ.wrap (f.Data.length:Int),hQ.wrap f.kO,hQ.wrap f.abv]:List Int)=L5 f:=by
  unfold L5;rw[w8 (by omega) (by omega),w8 (by omega) (by omega),w8 (by omega) (by omega)]
 rw[c,pN (by simp[L5];omega),aa,l8 (by decide) (by simp[L5];omega) (dk _),aa];have b:List.take (((L5 f++f.Data).length:Int).toNat - (1:Int).toNat) (List.drop (1:Int).toNat (L5 f++f.Data))=(L5 f++f.Data).drop 1:=by
  rw[dt,show(1:Int).toNat=1 from rfl,hP (by simp)]
 rw[b,ajk _ (d.drop 1) (by simp[L5];omega),aa];have e:=ago ((L5 f++f.Data).drop 1) 65535 (by decide) (by decide);rw[AD (by decide),aa,show(2:Int)^ (min (8:Int).toNat (IntKind.i64).bits)=256 from rfl,h7 _ (by decide),pN (by simp[L5];omega),aa];rw[w8 (n:=abp ((L5 f++f.Data).drop 1) 65535/256) (by omega) (by omega),ars]
 rfl
def aaN(a:List Int):Option (Nat×Option fa):=
 if a.length=0 then hD
 else if a.getD 0 0≠126\/(1<a.length/\64<a.getD 1 0) then c7 (1,hD)
 else if a.length<2\/(a.length:Int)<a.getD 1 0+6 then hD
 else if abp ((a.take (4+(a.getD 1 0).toNat)).drop 1) 65535≠a.getD (4+(a.getD 1 0).toNat) 0*256+a.getD (5+(a.getD 1 0).toNat) 0 then c7 (1,hD)
 else c7 ((a.getD 1 0).toNat+6,c7 ⟨a.getD 2 0,a.getD 3 0,(a.take (4+(a.getD 1 0).toNat)).drop 4⟩)
def adG{c:List Int}(d:Bytes c){b:Nat}{f:Option fa}(a:aaN c=c7 (b,f)):1<=b/\b<=c.length/\(f=hD->b=1):=by
 have e:=abT d 1;unfold aaN at a
 split at a
 .cases a
 .split at a
  .injection a with a;injection a with h1 h2
   subst h1;subst h2;exact⟨ga _,by omega,λ_=>rfl⟩
  .split at a
   .cases a
   .split at a
    .injection a with a;injection a with h1 h2
     subst h1;subst h2;exact⟨ga _,by omega,λ_=>rfl⟩
    .injection a with a;injection a with h1 h2
     subst h1;subst h2;exact⟨by omega,by omega,(λa=>by cases a)⟩
def aoR(c b:Int)(f:0<=c/\c<=255)(e:0<=b/\b<=255):bits .or .i64 (c*256) b=c*256+b:=by
 obtain⟨a,rfl⟩:=eE f.1;obtain⟨d,rfl⟩:=eE e.1;rw[show(a:Int)*256=((a*256:Nat):Int) by omega,ao2 _ _ (by omega) (by omega)];have:2^8*a+d=2^8*a ||| d:=Nat.two_pow_add_eq_or_of_lt (by omega) a;rw[show a*256=2^8*a by omega, <-this];omega
def aef(a:List Int)(c:Int)(out:List fa):(List fa×List Int×Int)⊕(List Int×List fa×Int):=
 match aaN a with
 |none=>.inr (a,out,c)
 |some (b,hD)=>.inl (out,a.drop b,c+1)
 |some (b,c7 f)=>.inl (out++[f],a.drop b,c)
def agY(a:List Int)(b:Nat)(c:b<=a.length):eG a (b:Int) (a.length:Int)=c7 (a.drop b):=by
 rw[l8 (by omega) (by omega) (dk _),dt,dt,hq]
def ahc(a:List Int)(f:Int)(out:List fa)(d:Bytes a)(G:a.length<=1000000)(C:out.length<=1000000)(B: -9223372036854775808<=f)(A:f<9223372036854775807):
 aey LC out a f=c7 (aef a f out):=by
 unfold aey aef aaN;have E:=abT d 0;have D:=abT d 1
 by_cases k:a.length=0
 .rw[aG,if_pos k]
 have s:aj a 0=c7 (a.getD 0 0):=jF (i:=0) 0 (by decide) (by omega);rw[aC,if_neg k,s,aa];have q:((bif c5 (a.getD 0 0≠126) then c7 true else bif c5 (1<(a.length:Int)) then(aj a 1).bind λo=>c7 (c5 (64<c3 c4 o)) else c7 false):Option Bool)=c7 (c5 (a.getD 0 0≠126\/(1<a.length/\64<a.getD 1 0))):=by
  by_cases c:a.getD 0 0≠126
  .rw[aC c,decide_eq_true (Or.inl c)]
  .rw[aG c]
   by_cases l:1<a.length
   .have e:aj a 1=c7 (a.getD 1 0):=jF (i:=1) 0 (by decide) (by omega);rw[aC,e,aa,aJ]
    congr 1
    exact decide_eq_decide.2 ⟨λb=>.inr ⟨l,b⟩,λb=>by rcases b with b |b;exact absurd b c;exact b.2⟩
   .rw[aG]
    congr 1
    exact(decide_eq_false (by rintro(b |b);exact c b;exact l b.1)).symm
 rw[q,aa]
 by_cases g:a.getD 0 0≠126\/(1<a.length/\64<a.getD 1 0)
 .rw[aC g,if_pos g,show(1:Int)=((1:Nat):Int) from rfl,agY a 1 (by omega),aa,show((1:Nat):Int)=1 from rfl,aJ (n:=f+1)]
  rfl
 rw[aG g,if_neg g];have p:((bif c5 ((a.length:Int)<2) then c7 true else(aj a 1).bind λm=>c7 (c5 ((a.length:Int)<c3 c4 (c3 c4 m+6)))):Option Bool)=c7 (c5 (a.length<2\/(a.length:Int)<a.getD 1 0+6)):=by
  by_cases c:a.length<2
  .rw[aC,decide_eq_true (Or.inl c)]
  .have e:aj a 1=c7 (a.getD 1 0):=jF (i:=1) 0 (by decide) (by omega);rw[aG,e,aa,aJ (n:=a.getD 1 0),aJ]
   congr 1
   exact decide_eq_decide.2 ⟨λb=>.inr b,λb=>by rcases b with b |b;exact absurd b c;exact b⟩
 rw[p,aa]
 by_cases h:a.length<2\/(a.length:Int)<a.getD 1 0+6
 .rw[aC h,if_pos h]
  rfl
 have e:aj a 1=c7 (a.getD 1 0):=jF (i:=1) 0 (by decide) (by omega);rw[aG h,if_neg h,e,aa,aJ (n:=a.getD 1 0),aJ (n:=4+a.getD 1 0),aJ (n:=5+a.getD 1 0),aJ (n:=a.getD 1 0+6)];obtain⟨n,u⟩:∃n:Nat,a.getD 1 0=(n:Int):=⟨(a.getD 1 0).toNat,by omega⟩;rw[u] at g h⊢;have w:=abT d (4+n);have v:=abT d (5+n);have z:=abT d 2;have F:=abT d 3;have y:aj a ((4+n:Nat):Int)=c7 (a.getD (4+n) 0):=by rw[jF (i:=((4+n:Nat):Int)) 0 (by omega) (by omega),dt]
 have r:aj a ((5+n:Nat):Int)=c7 (a.getD (5+n) 0):=by rw[jF (i:=((5+n:Nat):Int)) 0 (by omega) (by omega),dt]
 have x:aj a 2=c7 (a.getD 2 0):=jF (i:=2) 0 (by decide) (by omega);have t:aj a 3=c7 (a.getD 3 0):=jF (i:=3) 0 (by decide) (by omega);rw[dt,show(4:Int)+(n:Int)=((4+n:Nat):Int) by omega,show(5:Int)+(n:Int)=((5+n:Nat):Int) by omega,show(n:Int)+6=((n+6:Nat):Int) by omega];rw[l8 (by decide) (by omega) (by omega),aa,dt,show(1:Int).toNat=1 from rfl];rw[ajk _ ((d.take _).drop _) (by simp;omega),aa,y,aa,ahO (by decide),aa,show(2:Int)^ (min (8:Int).toNat (IntKind.i64).bits)=256 from rfl,r,aa];rw[aJ (n:=a.getD (4+n) 0),aJ (n:=a.getD (4+n) 0*256),aJ (n:=a.getD (5+n) 0),aoR _ _ w v]
 by_cases j:abp ((a.take (4+n)).drop 1) 65535≠a.getD (4+n) 0*256+a.getD (5+n) 0
 .rw[aC j,if_pos j,show(1:Int)=((1:Nat):Int) from rfl,agY a 1 (by omega),aa];rw[show((1:Nat):Int)=1 from rfl,aJ]
  rfl
 rw[aG j,if_neg j,x,aa,t,aa,l8 (by decide) (by omega) (by omega),aa,dt,pN (by simp;omega),aa,pN (by simp;omega),aa,agY a (n+6) (by omega),aa];rw[show(4:Int).toNat=4 from rfl,aJ (n:=a.getD 2 0),aJ (n:=a.getD 3 0),hS]
 rfl
def ah9{b:List Int}{c:Nat}{f:Option fa}(a:aaN b=c7 (c,f)):1<=c/\0<b.length:=by
 unfold aaN at a
 split at a
 .cases a
 .split at a
  .injection a with a;injection a with h1 h2;omega
  .split at a
   .cases a
   .split at a
    .injection a with a;injection a with h1 h2;omega
    .injection a with a;injection a with h1 h2;omega
inductive Fed:List Int->List Int->Nat->List fa->Prop
 |stop {l:List Int}:aaN l=hD->Fed l l 0 []
 |drop {l r:List Int} {n:Nat} {fs:List fa} {k:Nat}:aaN l=c7 (k,hD)->Fed (l.drop k) r n fs->Fed l r (n+1) fs
 |take {l r:List Int} {n:Nat} {fs:List fa} {k:Nat} {f:fa}:aaN l=c7 (k,c7 f)->Fed (l.drop k) r n fs->Fed l r n (f::fs)
def Fed.all(l:List Int):∃r n a,Fed l r n a:=by
 generalize e:l.length=m
 induction m using Nat.strongRecOn generalizing l with
 |_ m d=>
  cases h:aaN l with
  |none=>exact⟨l,0,[],.stop h⟩
  |some p=>
   obtain⟨k,f⟩:=p;have:=ah9 h;obtain⟨r,n,a,c⟩:=d (l.drop k).length (by simp;omega) (l.drop k) rfl;cases f with
   |none=>exact⟨r,n+1,a,.drop h c⟩
   |some f=>exact⟨r,n,f::a,.take h c⟩
def Fed.bd{l r:List Int}{n:Nat}{d:List fa}(h:Fed l r n d)(a:Bytes l):Bytes r/\r.length+n+d.length<=l.length:=by
 induction h with
 |stop h=>exact⟨a,by simp⟩
 |drop h _ c=>
  have:=adG a h;have:=c (a.drop _);rw[eH] at this;exact⟨this.1,by omega⟩
 |take h _ c=>
  have:=adG a h;have:=c (a.drop _);rw[eH] at this;exact⟨this.1,by simp;omega⟩
def Fed.ad2{l r k:List Int}{n m:Nat}{o d:List fa}(h:Fed l r n o)(c:Fed l k m d):k=r/\d=o:=by
 induction h generalizing k m d with
 |stop h=>
  cases c with
  |stop _=>exact⟨rfl,rfl⟩
  |drop a _=>rw[h] at a;cases a
  |take a _=>rw[h] at a;cases a
 |drop h _ e=>
  cases c with
  |stop a=>rw[h] at a;cases a
  |drop a j=>rw[h] at a;cases a;exact e j
  |take a _=>rw[h] at a;cases a
 |take h _ e=>
  cases c with
  |stop a=>rw[h] at a;cases a
  |drop a _=>rw[h] at a;cases a
  |take a j=>rw[h] at a;cases a;have:=e j;exact⟨this.1,by rw[this.2]⟩
def Fed.loop{l r:List Int}{n:Nat}{e:List fa}(h:Fed l r n e):∀{d:Int} {out:List fa},Bytes l->l.length+out.length<=1000000->-9223372036854775808<=d->d+l.length<9223372036854775807->
 bO (λs:List fa×List Int×Int=>aey LC s.1 s.2.1 s.2.2) (out,l,d)=c7 (r,out++e,d+(n:Int)):=by
 induction h with
 |@stop l h=>
  intro d out a o c m;refine(fZ (ahc l d out a (by omega) (by omega) c (by omega) |>.trans ?_)).trans rfl
  unfold aef;rw[h];simp
 |@drop l r n e k h _ j=>
  intro d out a o c m;have t:=adG a h;refine(iO (a':=(out,l.drop k,d+1)) (ahc l d out a (by omega) (by omega) c (by omega) |>.trans ?_)).trans ?_
  .unfold aef;rw[h]
  .have u:(l.drop k).length=l.length -k:=eH;rw[j (a.drop k) (by omega) (by omega) (by omega)]
   congr 3
   omega
 |@take l r n e k f h _ j=>
  intro d out a o c m;have t:=adG a h;refine(iO (a':=(out++[f],l.drop k,d)) (ahc l d out a (by omega) (by omega) c (by omega) |>.trans ?_)).trans ?_
  .unfold aef;rw[h]
  .have u:(l.drop k).length=l.length -k:=eH;rw[j (a.drop k) (by simp;omega) c (by omega),hK]
   rfl
def ajh{held b r:List Int}{d:Int}{f:Nat}{a:List fa}(c:Fed (held++b) r f a)(g:Bytes held)(h:Bytes b)(l:held.length+b.length<=1000000)(k:0<=d)(j:d<=1000000):adM LC ⟨held,d⟩ b=c7 (⟨r,d+(f:Int)⟩,a):=by
 have e:=g.aX h;have i:=c.bd e;have m:(held++b).length=held.length+b.length:=ea;unfold adM;dsimp only;rw[pN (by simp;omega),aa,hS,pN (by omega),aa];refine(dL (c.loop (out:=[]) e (by simp;omega) (by omega) (by omega))).trans ?_
 dsimp only;rw[pN (by simp;omega),aa]
 rfl
def adI{a b:List Int}{i:Nat}(c:i<a.length):(a++b).getD i 0=a.getD i 0:=by
 rw[dd,dd,e6 c]
def ajp{a b:List Int}{j:Nat}{f:Option fa}(o:Bytes a)(c:aaN a=c7 (j,f)):aaN (a++b)=c7 (j,f):=by
 have q:=abT o 1;have l:=ah9 c;have p:(a++b).getD 0 0=a.getD 0 0:=adI l.2;have r:(a++b).length=a.length+b.length:=ea;unfold aaN at c⊢;rw[if_neg (by omega)] at c;rw[if_neg (by omega),p]
 by_cases e:a.getD 0 0≠126
 .rw[if_pos (.inl e)] at c;rw[if_pos (.inl e)];exact c
 by_cases h:1<a.length
 .have m:(a++b).getD 1 0=a.getD 1 0:=adI h;rw[m]
  by_cases g:64<a.getD 1 0
  .rw[if_pos (.inr ⟨h,g⟩)] at c;rw[if_pos (.inr ⟨by omega,g⟩)];exact c
  .rw[if_neg (by rintro(d |d);exact e d;exact g d.2)] at c;rw[if_neg (by rintro(d |d);exact e d;exact g d.2)]
   by_cases k:a.length<2\/(a.length:Int)<a.getD 1 0+6
   .rw[if_pos k] at c;cases c
   .rw[if_neg k] at c;rw[if_neg (by omega)];have n:(a++b).take (4+(a.getD 1 0).toNat)=a.take (4+(a.getD 1 0).toNat):=List.take_append_of_le_length (by omega);rw[n,adI (by omega),adI (by omega),adI (i:=2) (by omega),adI (i:=3) (by omega)];exact c
 .rw[if_neg (by rintro(d |d);exact e d;exact h d.1),if_pos (.inl (by omega))] at c;cases c
def Fed.aX{a b r t:List Int}{n l:Nat}{s o:List fa}(h:Fed a r n s)(c:Bytes a)(d:Fed (r++b) t l o):∃u,Fed (a++b) t u (s++o):=by
 induction h with
 |stop h=>exact⟨l,d⟩
 |drop h _ e=>
  have j:=adG c h;obtain⟨m,k⟩:=e (c.drop _) d;exact⟨m+1,.drop (ajp c h) (by rw[hz j.2.1];exact k)⟩
 |take h _ e=>
  have j:=adG c h;obtain⟨m,k⟩:=e (c.drop _) d;exact⟨m,.take (ajp c h) (by rw[hz j.2.1];exact k)⟩
def ajv{a b:List Int}{i:Nat}:(a++b).getD (a.length+i) 0=b.getD i 0:=by
 rw[dd,dd,fe (by omega),Nat.add_sub_cancel_left]
def amO{f:fa}(o:ads f)(c:List Int):aaN (abK f++c)=c7 (f.Data.length+6,c7 f):=by
 have s:=o.l;generalize d:abp ((L5 f++f.Data).drop 1) 65535=b;have m:=ago ((L5 f++f.Data).drop 1) 65535 (by decide) (by decide);rw[d] at m;have l:abK f++c=(L5 f++f.Data)++(b/256::b%256::c):=by unfold abK;rw[d];simp
 rw[l];have k:(L5 f++f.Data).length=f.Data.length+4:=by simp[L5]
 generalize a:(L5 f++f.Data)++(b/256::b%256::c)=L;have r:L.length=f.Data.length+6+c.length:=by rw[<-a,ea,k];simp;omega
 have q:L.getD 0 0=126:=by rw[<-a];rfl
 have h:L.getD 1 0=(f.Data.length:Int):=by rw[<-a];rfl
 have i:L.getD 2 0=f.kO:=by rw[<-a];rfl
 have j:L.getD 3 0=f.abv:=by rw[<-a];rfl
 have p:L.take (4+f.Data.length)=L5 f++f.Data:=by rw[<-a,show 4+f.Data.length=(L5 f++f.Data).length by omega,List.take_left]
 have g:L.getD (4+f.Data.length) 0=b/256:=by
  rw[<-a,show 4+f.Data.length=(L5 f++f.Data).length+0 by omega,ajv];rfl
 have n:L.getD (5+f.Data.length) 0=b%256:=by
  rw[<-a,show 5+f.Data.length=(L5 f++f.Data).length+1 by omega,ajv];rfl
 unfold aaN;rw[q,h,i,j,dt,p,g,n,d,if_neg (by omega),if_neg (by rintro(e |e);exact e rfl;omega),if_neg (by omega),if_neg (by omega)]
 rfl
inductive aat:List Int->List fa->Prop
 |nil:aat [] []
 |adz {x:Int} {l:List Int} {fs:List fa}:x≠126->aat l fs->aat (x::l) fs
 |adA {f:fa} {l:List Int} {fs:List fa}:ads f->aat l fs->aat (abK f++l) (f::fs)
def aat.fed{l:List Int}{a:List fa}(h:aat l a):∃n,Fed l [] n a:=by
 induction h with
 |nil=>exact⟨0,.stop rfl⟩
 |@adz x l a j _ c=>
  obtain⟨n,d⟩:=c;refine⟨n+1,.drop (k:=1) ?_ d⟩
  unfold aaN;rw[if_neg (by simp),if_pos (.inl j)]
 |@adA f l a e _ c=>
  obtain⟨n,d⟩:=c;refine⟨n,.take (amO e l) ?_⟩
  rw[show f.Data.length+6=(abK f).length from(ahL f).symm,List.drop_left];exact d
def aat.snoc{l:List Int}{d:List fa}(h:aat l d){x:Int}(e:x≠126):aat (l++[x]) d:=by
 induction h with
 |nil=>exact .adz e .nil
 |adz c _ a=>exact .adz c a
 |adA c _ a=>rw[hK];exact .adA c a
def aat.add{l:List Int}{d:List fa}(h:aat l d){f:fa}(e:ads f):aat (l++abK f) (d++[f]):=by
 induction h with
 |nil=>have:=aat.adA e .nil;rw[List.append_nil] at this;exact this
 |adz c _ a=>exact .adz c a
 |adA c _ a=>rw[hK];exact .adA c a
def alk{a:List Int}(g:a.length<=1000000):afx LC a a=c7 true:=by
 unfold afx;rw[aG (λb=>b rfl)];have e:=nV (f:=λc=>afN LC a a c) a.length (λi=>(i:Int)) (.inr ()) (λi d=>by
  unfold afN;rw[aC,bn,c6 d,aa,aa,aG (λb=>b rfl),aJ]
  rfl) (by unfold afN;rw[aG])
 refine(dL e).trans rfl
def arC{r:aT}(a:r.aw.length<=1000000):af8 LC r r=c7 true:=by
 unfold af8;rw[aC rfl,aC rfl,aC rfl,alk a]
 rfl
section
variable {n np:Nat}{rs:List aS}{p:aE}{e:bH}
def gC.heard{l:aE}(h:gC p e l){r:aT}(c:r∈l.bZ):r∈p.bZ\/kb r:=by
 cases h with
 |xZ _ _ _ _ _ j=>obtain⟨b,s,fl,sm,o,rfl,_⟩:=j.ex;exact .inl c
 |xY _ _ _ _ _ _ _ _ _ j=>obtain⟨b,s,fl,sm,o,rfl,_⟩:=j.ex;exact .inl c
 |JE k rs rd w num u x b s _ _ _ _ _ m _ _ t=>
  obtain⟨d,rfl⟩:=t;rcases ec.1 (h6 c) with a |a
  .exact .inl a
  .rw[e4] at a;rw[a];exact .inr m
 |_=>exact .inl c
def aoe(j:Inv n np rs p){b:List bH}(d:∀e,e∈b->k9 rs.length e)(h0:∀r,r∈p.bZ->kb r):∀r,r∈(abf p b).bZ->kb r:=by
 unfold abf
 induction b generalizing p with
 |nil=>exact h0
 |cons e b h=>
  obtain⟨_,c,l⟩:=j.step (d e (ih ..));refine h l (λm g=>d m (hX _ g)) λr f=>?_
  have a:r∈(stp p e).1.bZ:=f;clear f;generalize stp p e=i at c a;obtain⟨q,o⟩:=i;dsimp only at c a;cases c with
  |no=>exact h0 r a
  |bad=>exact h0 r a
  |zI q s k=>exact(k.heard a).elim (h0 r) id
def ab6(r:aT):fa:=⟨r.agX,9,jr r⟩
def amD{r:aT}(a:kb r):ads (ab6 r):=by
 have b:=a.1;have c:=a.2.2.2.1;refine⟨by show 0<=r.agX/\r.agX<=255;omega,by show(0:Int)<=9/\(9:Int)<=255;decide,?_,arM a⟩
 show(jr r).length<=64
 rw[WL];omega
def aq6{k:List Int}(C:k.length<=400){h:List Int}(E:h.length<=40)(y:Bytes h){l:List fa}{d:bD}(z:DI k d.L d.At){f:List Int}(v:aat f l)(B:Bytes f)(D:f.length<=100000):
 Ok (bO (λa:List Int×Int×List Int×Int=>aep LC h (bD.mk a.1 a.2.1) a.2.2.1 a.2.2.2) (d.L,d.At,f,0)) λg=>DI k g.1 g.2.1/\aat g.2.2 l/\Bytes g.2.2/\g.2.2.length<=f.length+40:=by
 refine di h.length (λi a=>a.2.2.2=(i:Int)/\DI k a.1 a.2.1/\aat a.2.2.1 l/\Bytes a.2.2.1/\a.2.2.1.length<=f.length+i) _ (λi a t o=>?_) (λa o=>?_) _ ⟨rfl,z,v,B,by simp⟩
 .obtain⟨s,da,aK,u⟩:=a;obtain⟨rfl,j,b,c,r⟩:=o;dsimp only at j b c r⊢;unfold aep;rw[aC];obtain⟨g,x,m⟩:=p9 C (d:=⟨s,da⟩) j 2 (by decide);rw[x,aa,aa];dsimp only;refine dy (λ_=>?_) (λ_=>ae ⟨m,b,c,by dsimp only;omega⟩)
  have A:=c6 t;have w:=dT t;rw[bn,A,aa,aa,aJ]
  by_cases q:h[i]≠126
  .rw[aC q,pN (by simp;omega),aa,aa];exact ae ⟨rfl,m,b.snoc q,c.aX (Bytes.cons (y _ w) Bytes.nil),by simp;omega⟩
  .rw[aG q,aa];exact ae ⟨rfl,m,b,c,by dsimp only;omega⟩
 .obtain⟨s,da,aK,u⟩:=a;obtain⟨rfl,j,b,c,r⟩:=o;dsimp only at j b c r⊢;unfold aep;rw[aG,aa];dsimp only;exact ae ⟨j,b,c,by dsimp only;omega⟩
def asT{j:List Int}(F:j.length<=400){l:List Int}(A:l.length<=40)(C:Bytes l){q:aE}(z:∀r,r∈q.bZ->kb r)(H:q.bZ.length<=60){d:bD}(D:DI j d.L d.At):
 Ok (bO (λa:List Int×Int×List Int×Int=>agh LC q l (bD.mk a.1 a.2.1) a.2.2.1 a.2.2.2) (d.L,d.At,[],0)) λw=>∃x h g,w= .inr (x,h,g)/\DI j x h/\aat g (q.bZ.map ab6)/\Bytes g/\g.length<=6000:=by
 refine di q.bZ.length (λi a=>a.2.2.2=(i:Int)/\DI j a.1 a.2.1/\aat a.2.2.1 ((q.bZ.take i).map ab6)/\Bytes a.2.2.1/\a.2.2.1.length<=100*i) _ (λi a v k=>?_) (λa k=>?_) _ ⟨rfl,D,by simp;exact .nil,Bytes.nil,by simp⟩
 .obtain⟨t,da,aK,h⟩:=a;obtain⟨rfl,c,b,f,s⟩:=k;dsimp only at c b f s⊢;have u:=c6 v;have m:=z _ (dT v);have o:=amD m;have L:=m.2.2.2.1;unfold agh;rw[aC,bn,u,aa,WJ (by show _<=4611686018427387904;omega),if_pos m,aa];dsimp only;rw[show(⟨q.bZ[i].agX,9,jr q.bZ[i]⟩:fa)=ab6 q.bZ[i] from rfl,aqZ _ o,aa];dsimp only;rw[aG (by simp),decide_eq_false (by simp),aa,cond_false];obtain⟨w,B,y,E,G,I⟩:=aq6 F A C (d:=⟨t,da⟩) c b f (by omega);have K:=ahL (ab6 q.bZ[i]);have J:(ab6 q.bZ[i]).Data.length=9+2*q.bZ[i].aw.length:=WL _;refine c8 B ?_
  rw[pN (by omega),aa,aJ];refine ae ⟨rfl,y,?_,G.aX (asX o),by simp only[ea];omega⟩
  rw[iE u,List.map_append];exact E.add o
 .obtain⟨t,da,aK,h⟩:=a;obtain⟨rfl,c,b,f,s⟩:=k;dsimp only at c b f s⊢;unfold agh;rw[aG];rw[hq] at b;exact ae ⟨_,_,_,rfl,c,b,f,by omega⟩
def arp(h j:List Int)(V:Bytes j):ahl LC h j=c7 true:=by
 unfold ahl;rw[ajy,aa,WQ];have ad:(bif (!c5 ((h.length:Int)<=400)) then c7 true else c7 (c5 (40<(j.length:Int))):Option Bool)=c7 (c5 (¬((h.length:Int)<=400)\/40<(j.length:Int))):=fh rfl;rw[ad,aa]
 by_cases J:¬((h.length:Int)<=400)\/40<(j.length:Int)
 .rw[aC J];rfl
 rw[aG J];have s:h.length<=400:=by omega
 have S:j.length<=40:=by omega
 refine Ok.val ?_
 refine c8 (a:=h) rfl ?_
 refine aD (alo s) λz A=>?_
 refine aD (Vr A.2) λL K=>?_
 obtain⟨p,ok⟩:=L;obtain⟨G,C⟩:=K;dsimp only at G C⊢;rw[G,ej,cond_false];have l:=C.inv A.2;have Q:∀r,r∈p.bZ->kb r:=by
  obtain⟨ar,b,au,rfl,_⟩:=C.ex;exact λr v=>by cases v
 refine aD (aqk s (d:=⟨z.1,z.2.1⟩) A.1 l.sh 30 (by decide) (by decide)) λt F=>?_
 have E:∀e,e∈t.2.2->k9 z.2.2.aQ.length e:=by rw[<-l.rd];exact F.2.2
 rw[run_eq l E (by have:=F.2.1;omega),aa];have g:=l.run E;have B:=aoe l E Q;generalize abf p t.2.2=q at g B;have T:=g.sh.uB;refine aD (asT s S V B T (d:=⟨t.1,t.2.1⟩) F.1) λav N=>?_
 obtain⟨a,R,c,rfl,O,Y,k,ak⟩:=N;simp only[k0];rw[aJ (n:=(c.length:Int)+1)];refine aD (ir s (d:=⟨a,R⟩) O ((c.length:Int)+1) (by omega) (by omega)) λcut X=>?_
 have D:=X.2;generalize cut.2.2=o at D;rw[l8 (by decide) D.1 (by omega),aa,show(0:Int).toNat=0 from rfl,List.drop_zero];obtain⟨P,aw,am,w⟩:=Fed.all (c.take o.toNat);have H:=w.bd (k.take _);have ap:(c.take o.toNat).length<=c.length:=by rw[List.length_take];omega
 rw[ajh (held:=[]) (d:=0) w Bytes.nil (k.take _) (by simp;omega) (by decide) (by decide),aa];rw[l8 D.1 (by omega) (dk _),aa,dt,hq];have ai:(c.drop o.toNat).length<=c.length:=by rw[eH];omega
 obtain⟨aj,ax,al,y⟩:=Fed.all (P++c.drop o.toNat);have af:=y.bd (H.1.aX (k.drop _));rw[ea] at af;dsimp only;rw[ajh y H.1 (k.drop _) (by omega) (by omega) (by omega),aa];dsimp only;obtain⟨aq,I⟩:=w.aX (k.take _) y;rw[List.take_append_drop] at I;obtain⟨n4,ab⟩:=Y.fed;obtain⟨_,Z⟩:=I.ad2 ab;rw[pN (by simp;omega),aa,hS,pN (by omega),aa, <-Z,e5,aG (λW=>W rfl)];have U:=nV (f:=λx=>aei LC (q.bZ.map ab6) q x) q.bZ.length (λi=>(i:Int)) (.inr ()) (λi u=>by
  have m:=c6 u;have v:=B _ (dT u);have ao:=v.2.2.2.1;unfold aei;rw[aC (by rw[e5];omega),bn,dt,ef,m,Option.map_some,aa,aa,show ab6 q.bZ[i]=(⟨q.bZ[i].agX,9,jr q.bZ[i]⟩:fa) from rfl,anb v,aa];dsimp only;rw[aG (by simp),bn,m,aa,arC (by omega),aa,aa,ej,cond_false,aJ]
  rfl) (by
  unfold aei;rw[aG (by rw[e5];omega)])
 refine c8 U ?_
 simp only[k0];obtain⟨ah,ac⟩:=g.gh;have an:=g.sh.n3;have ag:=g.sh.iz;have M:=nV (f:=λx=>af4 LC q x) q.au.aN.length (λi=>(i:Int)) (.inr ()) (λi u=>by
  have m:=c6 u;unfold af4;rw[aC,QC g.sh.lC.be,aa,bn,m,aa,has_eq (by show _<=4611686018427387904;have:=LS q.bw (i:Int) q.au.aa0;omega),aa,decide_eq_true (ac.aev g.sh m),ej,cond_false,aJ]
  rfl) (by
  unfold af4;rw[aG])
 refine c8 M ?_
 exact ae rfl
end
end Go.X.T
namespace Go.X.T
open Go Go.Aml Go.Bml Go.X Go.Proofs Go.ChangeShapes Go.WideShapes Go.RowKit Go.ChangeAt
def ass{b:List Int}(d:∀a,a∈b->(Lit.int .u8 a).wf=true):Bytes b:=λa c=>by
 have:=d a c;unfold Lit.wf at this;rw[Bool.and_eq_true,decide_eq_true_iff,decide_eq_true_iff] at this;exact this
def asP:G8 hY (agO LC) [22,95]:=λr h0=>by
 obtain⟨q,p,i,rfl,f⟩:=ajJ h0;obtain⟨s,t,h,rfl,g⟩:=ajJ f;obtain rfl:=adH g;obtain⟨a,rfl,o,m⟩:=aeB (e:=3) (k:=.i64) (by kernel_rfl) (by kernel_rfl) (by kernel_rfl) (by kernel_rfl) i;obtain⟨c,rfl,n,j⟩:=aeB (e:=5) (k:=.u8) (by kernel_rfl) (by kernel_rfl) (by kernel_rfl) (by kernel_rfl) h;refine⟨(a,c),true,arp a c (ass j),rfl,λb=>?_,rfl⟩
 have l:dP hY 22=c7 false:=by kernel_rfl
 have d:dP hY 95=c7 false:=by kernel_rfl
 rw[l,d]
 match b with
 |0=>rfl
 |1=>rfl
 |b+2=>rfl
end Go.X.T
namespace Go.Proofs.YtfljhldgncdifaaGreat
open Go Go.Aml Go.Bml Go.X Go.X.T Go.ChangeShapes Go.WideShapes Go.ChangeAt Go.RowKit
def Wd:joinedFacts Tryz.pinned.checked.prog 7 k6 Rows.topTrackedSpec Rows.topTrackedRow=true:=by
 unfold joinedFacts;rw[ja,jb,jc,jd]
 kernel_rfl
def lifted(os:Os)(started:os.Started)(H:Type)(enc:TypeId×Value->H):
 ReturnsInHanded {} j4 os 7 .any (Rows.topTrackedSpec.pre6 enc hY k6 Rows.topTrackedRow.domain false) (Rows.topTrackedSpec.post enc hY k6 false true false false):=
 ahF (C:=j4) (c:=agO LC) (tb:=4) (by kernel_rfl) started (by kernel_rfl) Tryz.func7
  (ChangeSpec.witness6 (enc:=enc) (C:=j4) false ⟨#[],#[.slice hD 0 0,.slice hD 0 0],[]⟩ 8 (by kernel_rfl) (by kernel_rfl) (by kernel_rfl) (by kernel_rfl))
  (by kernel_rfl) (by kernel_rfl) (by kernel_rfl) rfl rfl Tryz.underlying4 (λds hl=>by
   match ds,hl with
   |[_,_],_=>rfl) rfl (aoD LC) asP
theorem topTracked_holds:Rows.TopTrackedSaid:=
 OpenClaim.holds_of_wide 7 k6 rfl rfl rfl rfl rfl rfl rfl ⟨rfl,rfl,rfl,rfl,rfl⟩ rfl rfl rfl rfl rfl (by kernel_rfl) Tryz.func7 Wd
  (of_decide_eq_true (by kernel_rfl)) (by unfold Func.isWrapper;first |(rw[if_pos (by decide+kernel)];kernel_rfl) |(rw[if_neg (by decide+kernel)];exact⟨rfl,rfl⟩))
  (λos started H enc _=>lifted os started H enc)
#print axioms topTracked_holds
end Go.Proofs.YtfljhldgncdifaaGreat
