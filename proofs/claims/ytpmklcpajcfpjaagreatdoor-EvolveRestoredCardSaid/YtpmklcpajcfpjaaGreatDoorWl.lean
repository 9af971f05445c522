/- A part of the proof. -/
import Derived.Test.YtpmklcpajcfpjaaGreatDoorWg
set_option linter.all false
set_option maxRecDepth 100000
set_option maxHeartbeats 8000000
open List renaming getElem?_eq_some_iff → yn, getElem?_append_left → yT
namespace Go.Proofs.YtpmklcpajcfpjaaGreatDoor
open Go
def BC.sm (t:BC):Prop:=t.kind=2->-100<=t.low/\t.low<=t.high/\t.high<=100

abbrev Pr:=Int×Int
def prC (p:Pr):List AV:=[.int .i64 p.1,.int .i64 p.2]
def outRow (out:List Pr)(a:An):List SC:=[⟨.sl out.isEmpty (out.map prC),a⟩]
def outAn (out:List Pr)(a:An):Prop:=out=[]/\a=.ex\/out≠[]/\a=.own 16 157
structure SucI (x y:BC)(out:List Pr)(s:LC):Prop where
 e9:(s.env 9).v=.ptr 9 2 0
 e10:(s.env 10).v=.ptr 10 2 0
 e11:(s.env 11).v=.ptr 11 3 0
 e12:(s.env 12).v=.fn 142 [.ptr 11 3 0]
 m9:s.mem 9 2=some (OG x)
 m10:s.mem 10 2=some (OG y)
 m11:∃an,s.mem 11 3=some (outRow out an)/\outAn out an
theorem SucI.of {x y:BC}{out:List Pr}{s s':LC}(h:SucI x y out s)(he:∀t,9<=t->t<=12->(s'.env t).v=(s.env t).v)(hm:∀t n,9<=t->t<=11->s'.mem t n=s.mem t n):SucI x y out s':=by
 obtain⟨h1,h2,h3,h4,h5,h6,h7⟩:=h;exact⟨by rw[he 9 (by omega) (by omega),h1],by rw[he 10 (by omega) (by omega),h2],by rw[he 11 (by omega) (by omega),h3],by rw[he 12 (by omega) (by omega),h4],by rw[hm 9 _ (by omega) (by omega),h5],by rw[hm 10 _ (by omega) (by omega),h6],by rw[hm 11 _ (by omega) (by omega)];exact h7⟩

abbrev Ent:=Pr×List Pr×Int
structure Bf (nx:Pr->List Pr)(p:Pr)(l:List Ent)(k:Nat)(e:Ent):Prop where
 bef:(k=0/\e=(p,[p],-1))\/(∃j:Nat,j<k/\e.2.2=j/\∃e',l[j]?=some e'/\e.2.1=e'.2.1++[e.1]/\e.1∈nx e'.1)
theorem Bf.more {nx:Pr->List Pr}{p:Pr}{l:List Ent}{k:Nat}{e:Ent}(h:Bf nx p l k e)(t:List Ent):Bf nx p (l++t) k e:=by
 rcases h with⟨h|⟨j,h1,h2,e',h3,h4⟩⟩
 ·exact⟨.inl h⟩
 ·exact⟨.inr ⟨j,h1,h2,e',by rw[yT (yn.1 h3).1];exact h3,h4⟩⟩


end Go.Proofs.YtpmklcpajcfpjaaGreatDoor
