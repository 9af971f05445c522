/- A part of the proof. -/
import Derived.Test.YtjoaiabjebpbjaaGreatSo
import Derived.Test.YtjoaiabjebpbjaaGreatSq
set_option linter.all false
set_option maxRecDepth 100000
set_option maxHeartbeats 8000000
open Option renaming bind_some → V
open List renaming range_succ → J, map_map → y0, getElem?_eq_getElem → y4, getElem_mem → y5, getElem?_map → y8, drop_eq_getElem_cons → y9, mem_cons → yc, mem_cons_of_mem → yh, mem_cons_self → yk, map_cons → yl, length_map → yn, map_nil → yo, take_append_getElem → yr, take_of_length_le → yv, cons_append → yx, getElem_of_mem → yy, mem_append → yE, nil_append → yK, mem_singleton → yL, mem_of_getElem? → yQ, take_append_drop → yR
open Int renaming toNat_lt → y3
open Bool renaming and_eq_true → y7
open Nat renaming le_refl → yf, le_trans → yw
namespace Go.Proofs.YtjoaiabjebpbjaaGreat
open Go
abbrev En:=Int × ByteArray
def SS (e:En):List AV:=[.int .i64 e.1,.str e.2]
theorem PS (l:List En):kB 2 (l.map SS)=true:=rD _ _ _ fun _=>rfl
theorem free_ent (l:List En):ZD (l.map SS)=true:=tJ _ _ fun _=>rfl
def upE:List En->Bool
 | a :: b :: r=>decide (a.1<b.1)&&upE (b :: r)
 | _=>true
theorem upE_get:∀ {l:List En},upE l=true->∀ {i:Nat} {a b:En},l[i]?=some a->l[i + 1]?=some b->a.1<b.1
 | [],_,i,a,b,h,_=>by simp at h
 | [_],_,i,a,b,_,h=>by simp at h
 | x :: y :: r,h,i,a,b,h1,h2=>by
  simp only [upE,y7,decide_eq_true_eq] at h
  match i with
  | 0 =>
   simp at h1 h2;subst h1; subst h2;exact h.1
  | i + 1=>exact upE_get h.2 (i:=i) (by simpa using h1) (by simpa using h2)
def EnRow (l:List En) (v:AV) (mem:Nat->Nat->Option (List rA)):Prop:=(∃ q N,v=.ref q N 2 0 l.length l.length/\q≠0/\mem q N=some (jA (l.map SS)))\/(l=[]/\v=.sl true [])
theorem SV (n:Nat) (e g:Nat->rA):sW n (E4 n e g)=g:=by
 funext t;rw [xZ,fD,if_neg (by omega)];congr 1;omega
theorem SM {T:Nat->Option qB} {ext:DB} {b:C} {k:Ex->aA->Option RV} {j:Nat} {s:aA}:AM (kI T ext) b k (.exit j) s=k (.exit j) s:=(rfl)
theorem ent_clos (a b:Int) (p q:ByteArray):sA 252 [.agg [.int .i64 a,.str p],.agg [.int .i64 b,.str q]] (.int .i64 (TO a b)):=by
 have h:=L4 a b;simp only [sA] at h;refine wA (c:=KD) rfl rfl ?_;simp [KD,-V,-y3,-y0,J,h]
section
variable {rv:RV} (l:List En) (hl:l.length<=12) (hu:upE l=true) (x:AV) (s0:aA) (hx:EnRow l x s0.mem)
include rv l hl hu x s0 hx
theorem ins_ev {a1 a2 a3 a4:An} (k:rA->aA->Option RV)
  (hk:∀ s',s'.mem=s0.mem->s'.obj=s0.obj->s'.gh=s0.gh->k ⟨.tup [],.no⟩ s'=some rv) :
  evH kA tA 256 [⟨x,a1⟩,⟨.int .i64 0,a2⟩,⟨.int .i64 l.length,a3⟩,⟨.fn 252 [],a4⟩] s0 k=some rv:=by
 refine tO xB rfl rfl ?_;simp [xB,-V,-y3,-y0,J];refine bA 12 (fun i s=>(s.env 0).v=x/\(s.env 1).v=.int .i64 0/\(s.env 2).v=.int .i64 l.length/\(s.env 3).v=.fn 252 []/\(s.env 8).v=.int .i64 ((i + 1:Nat):Int)/\s.mem=s0.mem/\s.obj=s0.obj/\s.gh=s0.gh)
  (fun e s=>e=.exit 0/\s.mem=s0.mem/\s.obj=s0.obj/\s.gh=s0.gh) (fun i hi s kk h ih db=>?_) _ _ ?_ (fun e s h=>?_)
 ·obtain ⟨e0,e1,e2,e3,e8,hm,ho,hg⟩:=h;refine uA ?_;obtain ⟨z,hz⟩:∃ z:Int,z=((i + 1:Nat):Int):=⟨_,rfl⟩;rw [<- hz] at e8;by_cases fa:i + 1<l.length
  ·have cz:z<l.length:=by omega
   have bc:0<=z:=by omega
   have hzp:0<z:=by omega
   rcases hx with ⟨q,N,rfl,hq,mq⟩ | ⟨rfl,_⟩
   case inr=>simp at fa
   obtain ⟨y,hy⟩:∃ y:Int,y=(i:Int):=⟨_,rfl⟩;have aq:IntKind.i64.wrap (z - 1)=y:=by rw [IntWalk.i64_in _ (by omega)]; omega
   have zi:IntKind.i64.wrap (z + 1)=((i + 1 + 1:Nat):Int):=by rw [IntWalk.i64_in _ (by omega)]; omega
   have tg:0<=y:=by omega
   have hyt:y.toNat<l.length:=by omega
   have hztl:z.toNat<l.length:=by omega
   have p1:l[i]?=some l[i]:=y4 (by omega);have p2:l[i + 1]?=some l[i + 1]:=y4 fa;have ff:=upE_get hu p1 p2;generalize l[i]=a at *
   generalize l[i + 1]=b at *
   have g1:(l.map SS)[y.toNat]?=some [.int .i64 a.1,.str a.2]:=by rw [show y.toNat=i from by omega]; simp [p1,SS]
   have g2:(l.map SS)[z.toNat]?=some [.int .i64 b.1,.str b.2]:=by rw [show z.toNat=i + 1 from by omega]; simp [p2,SS]
   have ld1:=MI (PS l) g1;have ld2:=MI (PS l) g2;have jd:=ent_clos b.1 a.1 b.2 a.2;have pr:TO b.1 a.1=1:=by
    unfold TO;rw [if_neg (by omega),if_pos ff]
   rw [pr] at jd;simp only [sA] at jd;simp [HB,-V,-y3,-y0,J,-SA,-xA,RA,OA,lA,zA,e2,e8,cz];refine uA ?_;simp [lD,-V,-y3,-y0,J,-SA,-xA,RA,OA,lA,zA,e0,e1,e3,hm,mq,hzp,bc,tg,aq,hyt,hztl,ld1,ld2,jd];simp [-V,-y3,-y0,J,SM,e8,zi];refine ih (by omega) _ ⟨?_,?_,?_,?_,?_,?_,?_,?_⟩
   ·simp [e0]
   ·simp [e1]
   ·simp [e2]
   ·simp [e3]
   ·simp [e8,zi]
   ·simp [hm]
   ·simp [ho]
   ·simp [hg]
  ·have cz:¬ z<l.length:=by omega
   simp [HB,-V,-y3,-y0,J,e2,e8,cz];exact db _ _ ⟨rfl,hm,ho,hg⟩
 ·refine ⟨?_,?_,?_,?_,?_,?_,?_,?_⟩ <;> simp
  rfl
 ·obtain ⟨rfl,hm,ho,hg⟩:=h;simp [-V,-y3,-y0,J,sN,tR,kO];exact hk _ hm ho hg
theorem pdq_ev {lim:Int} {a1 a2 a3 a4 a5:An} (k:rA->aA->Option RV)
  (hk:∀ s',s'.mem=s0.mem->s'.obj=s0.obj->s'.gh=s0.gh->k ⟨.tup [],.no⟩ s'=some rv) :
  evH kA tA 254 [⟨x,a1⟩,⟨.int .i64 0,a2⟩,⟨.int .i64 l.length,a3⟩,⟨.int .i64 lim,a4⟩,⟨.fn 252 [],a5⟩] s0 k=some rv:=by
 refine tO KB rfl rfl ?_;have hw:IntKind.i64.wrap (l.length:Int)=l.length:=IntWalk.i64_in _ (by omega);have im:(l.length:Int)<=12:=by omega
 simp [KB,-V,-y3,-y0,J];refine uA ?_;simp [sE,-V,-y3,-y0,J,hw,im];refine ins_ev l hl hu x _ (by simpa using hx) _ (fun s' hm ho hg=>?_);dsimp only at hm ho hg;simp [-V,-y3,-y0,J,hg,sN,tR,kO];refine hk _ ?_ ?_ ?_
 ·simp [hm]
 ·simp [ho]
 ·simp [SV]
end
theorem bitsLen_ev (n:Nat) (h:n<=12):∃ lim:Int,sA 101 [.int .u64 n] (.int .i64 lim):=by
 have:n=0\/n=1\/n=2\/n=3\/n=4\/n=5\/n=6\/n=7\/n=8\/n=9\/n=10\/n=11\/n=12:=by omega
 rcases this with rfl | rfl | rfl | rfl | rfl | rfl | rfl | rfl | rfl | rfl | rfl | rfl | rfl
 ·exact ⟨0,(UA.nil (T:=kA) (ext:=tA)).run 10 (by kernel_rfl)⟩
 ·exact ⟨1,(UA.nil (T:=kA) (ext:=tA)).run 10 (by kernel_rfl)⟩
 ·exact ⟨2,(UA.nil (T:=kA) (ext:=tA)).run 10 (by kernel_rfl)⟩
 ·exact ⟨2,(UA.nil (T:=kA) (ext:=tA)).run 10 (by kernel_rfl)⟩
 ·exact ⟨3,(UA.nil (T:=kA) (ext:=tA)).run 10 (by kernel_rfl)⟩
 ·exact ⟨3,(UA.nil (T:=kA) (ext:=tA)).run 10 (by kernel_rfl)⟩
 ·exact ⟨3,(UA.nil (T:=kA) (ext:=tA)).run 10 (by kernel_rfl)⟩
 ·exact ⟨3,(UA.nil (T:=kA) (ext:=tA)).run 10 (by kernel_rfl)⟩
 ·exact ⟨4,(UA.nil (T:=kA) (ext:=tA)).run 10 (by kernel_rfl)⟩
 ·exact ⟨4,(UA.nil (T:=kA) (ext:=tA)).run 10 (by kernel_rfl)⟩
 ·exact ⟨4,(UA.nil (T:=kA) (ext:=tA)).run 10 (by kernel_rfl)⟩
 ·exact ⟨4,(UA.nil (T:=kA) (ext:=tA)).run 10 (by kernel_rfl)⟩
 ·exact ⟨4,(UA.nil (T:=kA) (ext:=tA)).run 10 (by kernel_rfl)⟩
theorem sort_ev {rv:RV} (l:List En) (hl:l.length<=12) (hu:upE l=true) (x:AV) (s0:aA) (hx:EnRow l x s0.mem) {a1 a2:An} (k:rA->aA->Option RV)
  (hk:∀ s',s'.mem=s0.mem->s'.obj=s0.obj->s'.gh=s0.gh->k ⟨.tup [],.no⟩ s'=some rv) :
  evH kA tA 251 [⟨x,a1⟩,⟨.fn 252 [],a2⟩] s0 k=some rv:=by
 refine tO XB rfl rfl ?_;obtain ⟨lim,iy⟩:=bitsLen_ev l.length (by omega);have hw:IntKind.u64.wrap (l.length:Int)=l.length:=aE _ (by omega);simp only [sA] at iy;have ba:x=.sl true []/\l=[]\/∃ q N,x=.ref q N 2 0 l.length l.length:=by
  rcases hx with ⟨q,N,rfl,_,_⟩ | ⟨h1,h2⟩
  ·exact .inr ⟨q,N,rfl⟩
  ·exact .inl ⟨h2,h1⟩
 rcases ba with ⟨rfl,rfl⟩ | ⟨q,N,rfl⟩
 ·simp at hw iy;simp [XB,-V,-y3,-y0,J,hw,iy];refine pdq_ev [] (by simp) rfl (.sl true []) _ (.inr ⟨rfl,rfl⟩) _ (fun s' hm ho hg=>?_);dsimp only at hm ho hg;simp [-V,-y3,-y0,J,hg,sN,tR,kO];refine hk _ ?_ ?_ ?_
  ·simp [hm]
  ·simp [ho]
  ·simp [SV]
 ·simp [XB,-V,-y3,-y0,J,hw,iy];refine pdq_ev l hl hu _ _ (by simpa using hx) _ (fun s' hm ho hg=>?_);dsimp only at hm ho hg;simp [-V,-y3,-y0,J,hg,sN,tR,kO];refine hk _ ?_ ?_ ?_
  ·simp [hm]
  ·simp [ho]
  ·simp [SV]
section
def rU (sn:Bool) (S:List gA) (dp:Int):List AV:=[.sl sn (S.map eA),.int .i64 dp]
def jJ (sn:Bool) (S:List gA) (t:Int) (v:Vl) (p:ByteArray) (d:Nat):Prop:=∀ lv dp:Int,0<=lv->lv + d<=4611686018427387904 →
 BI kA tA 218 [.undef,.undef,.ptr 0 0 0,.int .i64 t,.agg (pA v),.int .i64 lv] (some (.agg (rU sn S dp)))=some (.str p,some (.agg (rU sn S (max dp (lv + d - 1)))))
def LJ (f:Int->Vl->ByteArray):List bB->List Vl->List En
 | m :: r,v :: q=>if jF m v then LJ f r q else (m.id,iG m.id m.crit (f m.ty v)) :: LJ f r q
 | _,_=>[]
def LM:List En->ByteArray->ByteArray
 | [],b=>b
 | e :: r,b=>LM r (b++e.2)
theorem jQ (f:Int->Vl->ByteArray):∀ (l:List bB) (q:List Vl) (b:ByteArray),UG f l q b=LM (LJ f l q) b
 | [],q,b=>by cases q <;> rfl
 | m :: r,[],b=>rfl
 | m :: r,v :: q,b=>by
  rw [UG,LJ,jQ f r q];split <;> rfl
theorem gU:∀ (l:List En) (b:ByteArray),b.size<=(LM l b).size
 | [],b=>yf _
 | e :: r,b=>by
  have:=gU r (b++e.2);rw [ByteArray.size_append] at this;rw [LM];omega
theorem RX:∀ (l m:List En) (b:ByteArray),LM (l++m) b=LM m (LM l b)
 | [],m,b=>rfl
 | e :: r,m,b=>by rw [yx,LM,LM,RX r m]
theorem US:∀ (l:List En) (b:ByteArray) (e:En),e∈l->e.2.size<=(LM l b).size
 | x :: r,b,e,h=>by
  rcases yc.1 h with rfl | h
  ·have:=gU r (b++e.2);rw [ByteArray.size_append] at this;rw [LM];omega
  ·rw [LM];exact US r _ e h
theorem GX (f:Int->Vl->ByteArray):∀ (l:List bB) (q:List Vl),(LJ f l q).length<=l.length
 | [],q=>by cases q <;> simp [LJ]
 | m :: r,[]=>by simp [LJ]
 | m :: r,v :: q=>by
  have:=GX f r q;rw [LJ];split <;> simp <;> omega
theorem G2 (f:Int->Vl->ByteArray):∀ (l:List bB) (q:List Vl) (m:bB) (v:Vl),l.length=q.length->LJ f (l++[m]) (q++[v])=LJ f l q++(if jF m v then [] else [(m.id,iG m.id m.crit (f m.ty v))])
 | [],[],m,v,_=>by
  simp only [yK,LJ]
 | a :: r,b :: q,m,v,h=>by
  rw [yx,yx,LJ,LJ,G2 f r q m v (by simpa using h)];split <;> simp
theorem J3 (f:Int->Vl->Nat):∀ (l:List bB) (q:List Vl) (m:bB) (v:Vl) (b:Nat),l.length=q.length->lI f (l++[m]) (q++[v]) b=if jF m v then lI f l q b else max (lI f l q b) (f m.ty v)
 | [],[],m,v,b,_=>by simp only [yK,lI]
 | a :: r,c :: q,m,v,b,h=>by
  rw [yx,yx,lI,lI,J3 f r q m v _ (by simpa using h)]
theorem J5 (f:Int->Vl->Nat):∀ (l:List bB) (q:List Vl) (b:Nat),b<=lI f l q b
 | [],q,b=>by cases q <;> exact yf _
 | m :: r,[],b=>yf _
 | m :: r,v :: q,b=>by
  rw [lI];split
  ·exact J5 f r q b
  ·exact yw (Nat.le_max_left _ _) (J5 f r q _)
theorem B8 (f:Int->Vl->Nat):∀ (l:List bB) (q:List Vl) (b:Nat) (i:Nat) (m:bB) (v:Vl),l[i]?=some m->q[i]?=some v->jF m v=false->f m.ty v<=lI f l q b
 | [],_,_,i,m,v,h,_,_=>by simp at h
 | _ :: _,[],_,i,m,v,_,h,_=>by simp at h
 | a :: r,c :: q,b,0,m,v,h1,h2,h3=>by
  simp at h1 h2;subst h1; subst h2;rw [lI,h3,if_neg (by decide)];exact yw (Nat.le_max_right _ _) (J5 f r q _)
 | a :: r,c :: q,b,i + 1,m,v,h1,h2,h3=>by
  rw [lI];exact B8 f r q _ i m v (by simpa using h1) (by simpa using h2) h3
theorem DS (f:Int->Vl->ByteArray):∀ (l:List bB) (q:List Vl) (i:Nat) (m:bB) (v:Vl),l[i]?=some m->q[i]?=some v->jF m v=false->(m.id,iG m.id m.crit (f m.ty v))∈LJ f l q
 | [],_,i,m,v,h,_,_=>by simp at h
 | _ :: _,[],i,m,v,_,h,_=>by simp at h
 | a :: r,c :: q,0,m,v,h1,h2,h3=>by
  simp at h1 h2;subst h1; subst h2;rw [LJ,h3,if_neg (by decide)];simp
 | a :: r,c :: q,i + 1,m,v,h1,h2,h3=>by
  have:=DS f r q i m v (by simpa using h1) (by simpa using h2) h3;rw [LJ];split
  ·exact this
  ·exact yh _ this
def upM (l:List bB):Prop:=l.Pairwise fun a b=>a.id<b.id
theorem FX (f:Int->Vl->ByteArray):∀ (l:List bB) (q:List Vl) (e:En),e∈LJ f l q->∃ m∈l,m.id=e.1
 | [],q,e,h=>by cases q <;> simp [LJ] at h
 | m :: r,[],e,h=>by simp [LJ] at h
 | m :: r,v :: q,e,h=>by
  rw [LJ] at h;split at h
  ·obtain ⟨m',h1,h2⟩:=FX f r q e h;exact ⟨m',yh _ h1,h2⟩
  ·rcases yc.1 h with rfl | h
   ·exact ⟨m,by simp,rfl⟩
   ·obtain ⟨m',h1,h2⟩:=FX f r q e h;exact ⟨m',yh _ h1,h2⟩
theorem entL_up (f:Int->Vl->ByteArray):∀ (l:List bB) (q:List Vl),upM l->(LJ f l q).Pairwise fun a b=>a.1<b.1
 | [],q,_=>by cases q <;> simp [LJ]
 | m :: r,[],_=>by simp [LJ]
 | m :: r,v :: q,h=>by
  obtain ⟨h1,h2⟩:=List.pairwise_cons.1 h;have ih:=entL_up f r q h2;rw [LJ];split
  ·exact ih
  ·refine List.pairwise_cons.2 ⟨fun e he=>?_,ih⟩;obtain ⟨m',hm,he2⟩:=FX f r q e he;have:=h1 m' hm;show m.id<e.1;omega
theorem upE_of:∀ {l:List En},(l.Pairwise fun a b=>a.1<b.1)->upE l=true
 | [],_=>rfl
 | [_],_=>rfl
 | a :: b :: r,h=>by
  obtain ⟨h1,h2⟩:=List.pairwise_cons.1 h;rw [upE,upE_of h2,Bool.and_true];exact decide_eq_true (h1 b (by simp))
theorem omitted_ev (m:bB) (v:Vl) (hm:m.dflt.ok):sA 249 [.agg (nA m),.agg (pA v)] (.bool (jF m v)):=by
 have h:=vequal_ev (SizeOf.sizeOf m.dflt + 1) m.dflt v (by omega) hm;simp only [sA,qA] at h;refine wA (c:=qG) rfl rfl ?_;rw [nA,qA];unfold jF;cases hh:m.has with
 | true=>simp [qG,-V,-y3,-y0,J,h]
 | false=>simp [qG,-V,-y3,-y0,J]
theorem sX (a s:ByteArray) (h:a.size + s.size<=140737488355328):BI kA tA 238 [.ptr 0 0 0,.str s] (some (iH 275 5 a))=some (.tup [.int .i64 s.size,.undef],some (iH 275 5 (a++s))) :=
 evC_ext rfl (by simp [tA,iH,h])
theorem BW (a:ByteArray):BI kA tA 240 [.ptr 0 0 0] (some (iH 275 5 a))=some (.str a,some (iH 275 5 a)) :=
 evC_ext rfl (by simp [tA,iH])
theorem MM (a:ByteArray):Q5 (iH 275 5 a)=true:=rfl
def EnAt (l:List En) (s:aA):Prop:=(∃ N,(s.env 9).v=.ref 54 N 2 0 l.length l.length/\s.mem 54 N=some (jA (l.map SS)))\/(l=[]/\(s.env 9).v=.sl true [])
theorem EnAt.row {l:List En} {s:aA} (h:EnAt l s):EnRow l (s.env 9).v s.mem:=by
 rcases h with ⟨N,h1,h2⟩ | ⟨h1,h2⟩
 ·exact .inl ⟨54,N,h1,by decide,h2⟩
 ·exact .inr ⟨h1,h2⟩
section
variable (sn:Bool) (S:List gA) (x:gA) (v:Vl) (fp:Int->Vl->ByteArray) (fd:Int->Vl->Nat)
structure RecI (lv dp:Int) (i:Nat) (s:aA):Prop where
 e0:(s.env 0).v=.ptr 0 0 0
 e3:(s.env 3).v=.int .i64 lv
 e6:(s.env 6).v=.ptr 6 1 0
 m6:s.mem 6 1=some [⟨.int .i64 v.kind,.no⟩,⟨.bool v.b,.no⟩,⟨.int .i64 v.i,.no⟩,⟨.str v.s,.no⟩,⟨.int .i64 v.id,.no⟩,⟨.sl v.kn (v.keys.map pA),.no⟩,⟨.sl v.xn (v.items.map pA),.no⟩,⟨.sl v.rn [],.no⟩]
 e18:(s.env 18).v=.sl x.mn (x.mems.map nA)
 e19:(s.env 19).v=.int .i64 x.mems.length
 e20:(s.env 20).v=.int .i64 i
 m0:s.mem 0 0=some [⟨.sl sn (S.map eA),rB (.sl sn (S.map eA))⟩,⟨.int .i64 (max dp (lv + lI fd (x.mems.take i) (v.items.take i) 0)),.no⟩]
 en:EnAt (LJ fp (x.mems.take i) (v.items.take i)) s
theorem rec_lp {rv:RV} (ba:v.items.length=x.mems.length) (pb:x.mems.length<=16) (LN:∀ m∈x.mems,1<=m.id/\m.id<=1000) (uo:∀ m∈x.mems,m.dflt.ok)
  (hf:∀ (i:Nat) m u,x.mems[i]?=some m->v.items[i]?=some u->jF m u=false->jJ sn S m.ty u (fp m.ty u) (fd m.ty u))
  (ma:(UG fp x.mems v.items eB).size<=140737488355328) {lv dp:Int} (il:0<=lv) (hd:lv + 1 + lI fd x.mems v.items 0<=4611686018427387904)
  (s:aA) (h:RecI sn S x v fp fd lv dp 0 s) (k:Ex->aA->Option RV)
  (hk:∀ s',RecI sn S x v fp fd lv dp x.mems.length s'->k (.exit 0) s'=some rv):kI kA tA rC s k=some rv:=by
 refine bA x.mems.length (RecI sn S x v fp fd lv dp) (fun e s=>e=.exit 0/\RecI sn S x v fp fd lv dp x.mems.length s) (fun i hi s kk h ih db=>?_) _ _ h (fun e s h=>by obtain ⟨rfl,h⟩:=h; exact hk s h);obtain ⟨e0,e3,e6,m6,e18,e19,e20,m0,en⟩:=h;refine uA ?_;by_cases fa:i<x.mems.length
 ·have ga:(i:Int)<x.mems.length:=by omega
  have fe:i<v.items.length:=by omega
  have p1:x.mems[i]?=some x.mems[i]:=y4 fa;have p2:v.items[i]?=some v.items[i]:=y4 fe;have t1:x.mems.take (i + 1)=x.mems.take i++[x.mems[i]]:=(yr fa).symm;have t2:v.items.take (i + 1)=v.items.take i++[v.items[i]]:=(yr fe).symm;have hw:=LA (i:=i);have pt:=LN _ (y5 fa);have hdk:=uo _ (y5 fa);generalize x.mems[i]=m at *
  generalize v.items[i]=u at *
  have g1:(x.mems.map nA)[i]?=some (nA m):=by rw [y8,p1]; rfl
  have g2:(v.items.map pA)[i]?=some (pA u):=by rw [y8,p2]; rfl
  have fx:=omitted_ev m u hdk;have sc:=G2 fp (x.mems.take i) (v.items.take i) m u (by simp; omega);have hrd:=J3 fd (x.mems.take i) (v.items.take i) m u 0 (by simp; omega);rw [<- t1,<- t2] at sc hrd;simp only [sA,nA,qA] at g1 g2 fx;cases hb:jF m u with
  | true =>
   rw [hb] at fx;rw [hb,if_pos rfl,List.append_nil] at sc;rw [hb,if_pos rfl] at hrd;simp [rC,-V,-y3,-y0,J,e6,m6,e18,e19,e20,ga,g1,g2,fx,hw];refine ih fa _ ⟨?_,?_,?_,?_,?_,?_,?_,?_,?_⟩
   ·simp [e0]
   ·simp [e3]
   ·simp [e6]
   ·simp [m6]
   ·simp [e18]
   ·simp [e19]
   ·simp
   ·rw [hrd]; simp [m0]
   ·rw [sc];rcases en with ⟨N,h1,h2⟩ | ⟨h1,h2⟩
    ·exact .inl ⟨N,by simp [h1],by simp [h2]⟩
    ·exact .inr ⟨h1,by simp [h2]⟩
  | false =>
   rw [hb] at fx;rw [hb,if_neg (by decide)] at sc;rw [hb,if_neg (by decide)] at hrd;have jb:=DS fp x.mems v.items i m u p1 p2 hb;have hsz1:=US _ eB _ jb;rw [<- jQ] at hsz1;have hsz2:=bL m.id m.crit (fp m.ty u);have lu:=field_ev m.id pt m.crit (fp m.ty u) (by simp only at hsz1; omega);have hdm:=B8 fd x.mems v.items 0 i m u p1 p2 hb;have py:=hf i m u p1 p2 hb (lv + 1) (max dp (lv + lI fd (x.mems.take i) (v.items.take i) 0)) (by omega) (by omega);have pe:max (max dp (lv + (lI fd (x.mems.take i) (v.items.take i) 0:Nat))) (lv + 1 + (fd m.ty u:Nat) - 1)=max dp (lv + (max (lI fd (x.mems.take i) (v.items.take i) 0) (fd m.ty u):Nat)):=by omega
   rw [pe,<- hrd] at py;have og:IntKind.i64.wrap (lv + 1)=lv + 1:=IntWalk.i64_in _ (by omega);have ub:=GX fp (x.mems.take i) (v.items.take i);have hle2:(LJ fp (x.mems.take i) (v.items.take i)).length<=16:=yw ub (by simp; omega);generalize LJ fp (x.mems.take i) (v.items.take i)=l at *
   have ja:PB 24 (l.length + 1)=true:=by rw [CA]; omega
   have q:=PS l;have bi:=WM (PS l) (free_ent l);rw [yn] at bi;have ot:(l++[(m.id,iG m.id m.crit (fp m.ty u))]).length=l.length + 1:=by simp
   simp only [sA,rU,qA] at lu py;rcases en with ⟨N,h1,h2⟩ | ⟨h1,h2⟩
   ·simp [rC,-V,-y3,-y0,J,-SA,-xA,RA,OA,lA,zA,e0,e3,e6,m6,e18,e19,e20,m0,ga,g1,g2,fx,hw,og,py,lu,h1,h2,bi,Cl.okMem,ja,q,eC,cE,pD,pG,rB];refine ih fa _ ⟨?_,?_,?_,?_,?_,?_,?_,?_,?_⟩
    ·simp [e0]
    ·simp [e3]
    ·simp [e6]
    ·simp [m6]
    ·simp [e18]
    ·simp [e19]
    ·simp
    ·simp [rB]
    ·rw [sc];exact .inl ⟨_,by simp; rfl,by simp [SS]⟩
   ·subst h1;have r24:PB 24 1=true:=by decide
    simp [rC,-V,-y3,-y0,J,-SA,-xA,RA,OA,lA,zA,e0,e3,e6,m6,e18,e19,e20,m0,ga,g1,g2,fx,hw,og,py,lu,h2,r24,Cl.okMem,eC,cE,pD,pG,rB];refine ih fa _ ⟨?_,?_,?_,?_,?_,?_,?_,?_,?_⟩
    ·simp [e0]
    ·simp [e3]
    ·simp [e6]
    ·simp [m6]
    ·simp [e18]
    ·simp [e19]
    ·simp
    ·simp [rB]
    ·rw [sc];exact .inl ⟨_,by simp; rfl,by simp [SS]⟩
 ·have ga:¬ (i:Int)<x.mems.length:=by omega
  have ru:i=x.mems.length:=by omega
  subst ru;simp [rC,-V,-y3,-y0,J,e19,e20];exact db _ _ ⟨rfl,by simp [e0],by simp [e3],by simp [e6],by simp [m6],by simp [e18],by simp [e19],by simp [e20],by simp [m0],by
   rcases en with ⟨N,h1,h2⟩ | ⟨h1,h2⟩
   ·exact .inl ⟨N,by simp [h1],by simp [h2]⟩
   ·exact .inr ⟨h1,by simp [h2]⟩⟩
end
end
theorem out_lp {rv:RV} (l:List En) (hl:l.length<=16) (ma:(LM l eB).size<=140737488355328) (uk:Nat) (s:aA) (he:EnAt l s) (lz:(s.env 77).v=(s.env 9).v) (gd:(s.env 14).v=.ptr 14 uk 0) (ob:s.obj 14 uk=some (iH 275 5 eB)) (e78:(s.env 78).v=.int .i64 l.length) (e79:(s.env 79).v=.int .i64 0) (m0:Option (List rA)) (be:s.mem 0 0=m0) (k:Ex->aA->Option RV)
  (hk:∀ s',(s'.env 14).v=.ptr 14 uk 0->s'.obj 14 uk=some (iH 275 5 (LM l eB))->s'.mem 0 0=m0->k (.exit 4) s'=some rv):kI kA tA HC s k=some rv:=by
 have ka:(∃ N,(s.env 77).v=.ref 54 N 2 0 l.length l.length/\s.mem 54 N=some (jA (l.map SS)))\/(l=[]/\(s.env 77).v=.sl true []):=by rw [lz]; exact he
 clear he lz;rcases ka with ⟨N,lz,mN⟩ | ⟨rfl,lz⟩
 ·refine bA l.length (fun i s=>(s.env 77).v=.ref 54 N 2 0 l.length l.length/\s.mem 54 N=some (jA (l.map SS))/\(s.env 14).v=.ptr 14 uk 0/\s.obj 14 uk=some (iH 275 5 (LM (l.take i) eB))/\(s.env 78).v=.int .i64 l.length/\(s.env 79).v=.int .i64 i/\s.mem 0 0=m0)
   (fun e s=>e=.exit 4/\(s.env 14).v=.ptr 14 uk 0/\s.obj 14 uk=some (iH 275 5 (LM l eB))/\s.mem 0 0=m0) (fun i hi s kk h ih db=>?_) _ _ ⟨lz,mN,gd,ob,e78,e79,be⟩ (fun e s h=>by obtain ⟨rfl,h1,h2,h3⟩:=h; exact hk s h1 h2 h3)
  obtain ⟨lz,mN,gd,ob,e78,e79,be⟩:=h;refine uA ?_;by_cases fa:i<l.length
  ·have ga:(i:Int)<l.length:=by omega
   have p1:l[i]?=some l[i]:=y4 fa;have t1:l.take (i + 1)=l.take i++[l[i]]:=(yr fa).symm;have hw:=LA (i:=i);generalize l[i]=e at *
   have g1:(l.map SS)[i]?=some [.int .i64 e.1,.str e.2]:=by simp [p1,SS]
   have ld:=MI (PS l) g1;have nr:LM (l.take (i + 1)) eB=LM (l.take i) eB++e.2:=by rw [t1,RX]; rfl
   have ub:(LM (l.take (i + 1)) eB).size<=140737488355328:=by
    have h1:=RX (l.take (i + 1)) (l.drop (i + 1)) eB;rw [yR] at h1;have:=gU (l.drop (i + 1)) (LM (l.take (i + 1)) eB);rw [<- h1] at this;omega
   rw [nr,ByteArray.size_append] at ub;have az:=sX (LM (l.take i) eB) e.2 ub;rw [<- nr] at az;simp [HC,-V,-y3,-y0,J,-SA,-xA,RA,OA,lA,zA,lz,mN,gd,ob,e78,e79,fa,ga,ld,hw,az,Cl.okMem,MM,AV.isUn];refine ih fa _ ⟨?_,?_,?_,?_,?_,?_,?_⟩
   ·simp [lz]
   ·simp [mN]
   ·simp [gd]
   ·simp
   ·simp [e78]
   ·simp
   ·simp [be]
  ·have ga:¬ (i:Int)<l.length:=by omega
   rw [yv (by omega)] at ob;simp [HC,-V,-y3,-y0,J,e78,e79,ga];exact db _ _ ⟨rfl,by simp [gd],ob,be⟩
 ·refine uA ?_;simp at e78;simp [HC,-V,-y3,-y0,J,e78,e79];exact hk _ (by simp [gd]) ob be
theorem record_ev (sn:Bool) (S:List gA) (x:gA) (v:Vl) (fp:Int->Vl->ByteArray) (fd:Int->Vl->Nat) (ba:v.items.length=x.mems.length) (hr:v.rest=[]) (pb:x.mems.length<=12) (gk:upM x.mems) (LN:∀ m∈x.mems,1<=m.id/\m.id<=1000) (uo:∀ m∈x.mems,m.dflt.ok)
  (hf:∀ (i:Nat) m u,x.mems[i]?=some m->v.items[i]?=some u->jF m u=false->jJ sn S m.ty u (fp m.ty u) (fd m.ty u))
  (ma:(UG fp x.mems v.items eB).size<=140737488355328) {lv dp:Int} (il:0<=lv) (hd:lv + 1 + lI fd x.mems v.items 0<=4611686018427387904) (hdp:lv<=dp) :
  BI kA tA 236 [.undef,.undef,.ptr 0 0 0,.agg (eA x),.agg (pA v),.int .i64 lv] (some (.agg (rU sn S dp)))=some (.str (UG fp x.mems v.items eB),some (.agg (rU sn S (max dp (lv + lI fd x.mems v.items 0))))):=by
 refine tF UE rfl rfl ?_;rw [eA,qA,hr];simp [UE,-V,-y3,-y0,J,eC,cE,pD,pG,rB,gM,rJ,rU];refine rec_lp sn S x v fp fd ba (by omega) LN uo hf ma (lv:=lv) (dp:=dp) il hd _ ⟨?_,?_,?_,?_,?_,?_,?_,?_,?_⟩ _ (fun s1 h1=>?_)
 ·simp
 ·simp
 ·simp
 ·simp
 ·simp
 ·simp
 ·simp
 ·simp [lI,rB];omega
 ·simp [LJ];exact .inr ⟨rfl,by simp⟩
 ·obtain ⟨e0,e3,e6,m6,e18,e19,e20,m0,en⟩:=h1;rw [yv (by omega),yv (by omega)] at m0 en;have hlE:=GX fp x.mems v.items;have nr:=jQ fp x.mems v.items eB;have hue:=upE_of (entL_up fp x.mems v.items gk);rw [nr] at ma ⊢;generalize LJ fp x.mems v.items=l at *
  simp [-V,-y3,-y0,J,e6,m6];refine uA ?_;simp [BH,-V,-y3,-y0,J];refine sort_ev l (by omega) hue _ _ ?_ _ (fun s2 hm ho hg=>?_)
  ·dsimp only;exact en.row
  ·dsimp only at hm ho hg;have hlen9:∃ z:Int,z=l.length/\K.run (BI kA tA) s1 (.len false (.t 9))=some (⟨.int .i64 z,.no⟩,.none):=by
    rcases en with ⟨N,h1,h2⟩ | ⟨h1,h2⟩
    ·exact ⟨_,rfl,by simp [K.run,CB.get,h1]⟩
    ·exact ⟨_,rfl,by simp [K.run,CB.get,h1,h2]⟩
   rcases en with ⟨N,h1,h2⟩ | ⟨h1,h2⟩
   ·simp [-V,-y3,-y0,J,hg,h1];refine out_lp l (by omega) ma (s2.next + 1) _ (.inl ⟨N,?_,?_⟩) ?_ ?_ ?_ ?_ ?_ _ rfl _ (fun s3 si fo fm=>?_)
    ·simp [h1]
    ·simp [hm,h2]
    ·simp [h1]
    ·simp
    ·simp [eB]
    ·simp
    ·simp
    ·have ph:=BW (LM l eB);dsimp only at fm;rw [hm] at fm;simp at fm;simp [-V,-y3,-y0,J,si,fo,ph,Cl.okMem,MM,gM,rJ,fm,m0]
   ·subst h1;simp [-V,-y3,-y0,J,hg,h2];refine out_lp [] (by simp) ma (s2.next + 1) _ (.inr ⟨rfl,?_⟩) ?_ ?_ ?_ ?_ ?_ _ rfl _ (fun s3 si fo fm=>?_)
    ·simp [h2]
    ·simp [h2]
    ·simp
    ·simp [eB]
    ·simp
    ·simp
    ·have ph:=BW (LM [] eB);dsimp only at fm;rw [hm] at fm;simp at fm;simp [-V,-y3,-y0,J,si,fo,ph,Cl.okMem,MM,gM,rJ,fm,m0]
section
theorem union_ev (sn:Bool) (S:List gA) (x:gA) (v:Vl) (p:ByteArray) (d:Nat) {m:bB} {u:Vl} (ik:x.mems.length<=9223372036854775807) (hr:v.rest=[]) (hu:v.items=[u]) (c1:0<=aC x.mems v.id) (ti:x.mems[(aC x.mems v.id).toNat]?=some m) (LN:1<=v.id/\v.id<=1000)
  (hf:jJ sn S m.ty u p d) (ma:p.size<=140737488355328) {lv dp:Int} (il:0<=lv) (hd:lv + 1 + d<=4611686018427387904) (hdp:lv<=dp) :
  BI kA tA 237 [.undef,.undef,.ptr 0 0 0,.agg (eA x),.agg (pA v),.int .i64 lv] (some (.agg (rU sn S dp)))=some (.str (lM v.id++p),some (.agg (rU sn S (max dp (lv + d))))):=by
 have hm:=mem_ev x v.id ik;have h1:=put_ev v.id (by omega);have h2:IntKind.u64.wrap v.id=v.id:=aE _ (by omega);have h3:=hf (lv + 1) dp (by omega) (by omega);rw [show lv + 1 + (d:Int) - 1=lv + d from by omega] at h3;have og:IntKind.i64.wrap (lv + 1)=lv + 1:=IntWalk.i64_in _ (by omega);have h4:(lM v.id).size + p.size<=9223372036854775807:=by have:=sJ v.id; omega
 simp only [sA,eA,uT] at hm;generalize aC x.mems v.id=ix at *
 simp only [c1,decide_true] at hm;have jk:max ix 0=ix:=Int.max_eq_left c1;rw [jk] at hm;have g2:(x.mems.map nA)[ix.toNat]?=some (nA m):=by rw [y8,ti]; rfl
 simp only [sA,nA,rU,qA] at g2 h1 h3;refine tF aF rfl rfl ?_;rw [eA,qA,hu,hr];simp only [yl,yo,qA];simp [aF,-V,-y3,-y0,J,eC,cE,pD,pG,rB,gM,rJ,rU,hm,h1,h2,h3,h4,g2,c1,og]
section
variable (sn:Bool) (S:List gA) (t:Int) (x:gA) (v:Vl) (fp:Int->Vl->ByteArray) (fd:Int->Vl->Nat) (h0:0<=t) (g:S[t.toNat]?=some x)
include h0 g
theorem pay1 (hk:x.kind=1):jJ sn S t v (eD fp x v) (FH fd x v):=by
 intro lv dp il hd;have g1:(S.map eA)[t.toNat]?=some (eA x):=by rw [y8,g]; rfl
 simp only [eA,hk] at g1;refine tF cA rfl rfl ?_;rw [qA];have e1:(lv + (1:Nat) - 1:Int)=lv:=by omega
 unfold eD FH;cases hb:v.b with
 | true=>simp [cA,-V,-y3,-y0,J,eC,cE,pD,pG,rB,gM,rJ,rU,g1,h0,hk,hb,Z9,eB]
 | false=>simp [cA,-V,-y3,-y0,J,eC,cE,pD,pG,rB,gM,rJ,rU,g1,h0,hk,hb,Z9,eB]
theorem pay2 (hk:x.kind=2) (hi:LE v.i):jJ sn S t v (eD fp x v) (FH fd x v):=by
 intro lv dp il hd;have g1:(S.map eA)[t.toNat]?=some (eA x):=by rw [y8,g]; rfl
 have hz:=zig_ev v.i hi;have hb:=big_ev (CZ v.i) (by unfold CZ; obtain ⟨i1,i2⟩:=hi; split <;> omega);simp only [sA,eA,hk] at g1 hz hb;refine tF cA rfl rfl ?_;rw [qA];unfold eD FH;simp [cA,-V,-y3,-y0,J,eC,cE,pD,pG,rB,gM,rJ,rU,g1,h0,hk,Z9,hz,hb]
theorem pay3 (hk:x.kind=3):jJ sn S t v (eD fp x v) (FH fd x v):=by
 intro lv dp il hd;have g1:(S.map eA)[t.toNat]?=some (eA x):=by rw [y8,g]; rfl
 simp only [eA,hk] at g1;refine tF cA rfl rfl ?_;rw [qA];unfold eD FH;simp [cA,-V,-y3,-y0,J,eC,cE,pD,pG,rB,gM,rJ,rU,g1,h0,hk,Z9]
theorem pay4 (hk:x.kind=4) (LN:1<=v.id/\v.id<=1000):jJ sn S t v (eD fp x v) (FH fd x v):=by
 intro lv dp il hd;have g1:(S.map eA)[t.toNat]?=some (eA x):=by rw [y8,g]; rfl
 have hb:=big_ev v.id (by omega);have h2:IntKind.u64.wrap v.id=v.id:=aE _ (by omega);simp only [sA,eA,hk] at g1 hb;refine tF cA rfl rfl ?_;rw [qA];unfold eD FH;simp [cA,-V,-y3,-y0,J,eC,cE,pD,pG,rB,gM,rJ,rU,g1,h0,hk,Z9,hb,h2]
theorem pay5 (hk:x.kind=5) (ba:v.items.length=x.mems.length) (hr:v.rest=[]) (pb:x.mems.length<=12) (gk:upM x.mems) (LN:∀ m∈x.mems,1<=m.id/\m.id<=1000) (uo:∀ m∈x.mems,m.dflt.ok)
  (hf:∀ (i:Nat) m u,x.mems[i]?=some m->v.items[i]?=some u->jF m u=false->jJ sn S m.ty u (fp m.ty u) (fd m.ty u))
  (ma:(eD fp x v).size<=140737488355328):jJ sn S t v (eD fp x v) (FH fd x v):=by
 intro lv dp il hd;have g1:(S.map eA)[t.toNat]?=some (eA x):=by rw [y8,g]; rfl
 have hp:eD fp x v=UG fp x.mems v.items eB:=by simp [eD,hk]
 have hq:FH fd x v=1 + lI fd x.mems v.items 0:=by simp [FH,hk]
 rw [hp] at ma ⊢;rw [hq] at hd ⊢;have ud:=record_ev sn S x v fp fd ba hr pb gk LN uo hf ma (lv:=lv) (dp:=max dp lv) il (by omega) (by omega);have pe:max (max dp lv) (lv + (lI fd x.mems v.items 0:Nat))=max dp (lv + ((1 + lI fd x.mems v.items 0:Nat):Int) - 1):=by omega
 rw [pe] at ud;simp only [eA,rU,qA,hk] at g1 ud;refine tF cA rfl rfl ?_;rw [qA];simp [cA,-V,-y3,-y0,J,eC,cE,pD,pG,rB,gM,rJ,rU,g1,h0,hk,Z9,ud]
theorem pay6 (hk:x.kind=6) {m:bB} {u:Vl} (ik:x.mems.length<=9223372036854775807) (hr:v.rest=[]) (hu:v.items=[u]) (c1:0<=aC x.mems v.id) (ti:x.mems[(aC x.mems v.id).toNat]?=some m) (LN:1<=v.id/\v.id<=1000)
  (hf:jJ sn S m.ty u (fp m.ty u) (fd m.ty u)) (ma:(eD fp x v).size<=140737488355328):jJ sn S t v (eD fp x v) (FH fd x v):=by
 intro lv dp il hd;have g1:(S.map eA)[t.toNat]?=some (eA x):=by rw [y8,g]; rfl
 have hp:eD fp x v=lM v.id++fp m.ty u:=by simp [eD,hk,ti,hu,armB]
 have hq:FH fd x v=1 + fd m.ty u:=by simp [FH,hk,ti,hu,armD]
 rw [hp,ByteArray.size_append] at ma;rw [hp];rw [hq] at hd ⊢;have ud:=union_ev sn S x v (fp m.ty u) (fd m.ty u) ik hr hu c1 ti LN hf (by omega) (lv:=lv) (dp:=max dp lv) il (by omega) (by omega);have pe:max (max dp lv) (lv + (fd m.ty u:Nat))=max dp (lv + ((1 + fd m.ty u:Nat):Int) - 1):=by omega
 rw [pe] at ud;simp only [eA,rU,qA,hk] at g1 ud;refine tF cA rfl rfl ?_;rw [qA];simp [cA,-V,-y3,-y0,J,eC,cE,pD,pG,rB,gM,rJ,rU,g1,h0,hk,Z9,ud]
theorem pay9 (hk:x.kind=9) (hf:∀ u∈v.items,jJ sn S x.elem u (fp x.elem u) (fd x.elem u)) (ma:(eD fp x v).size<=140737488355328):jJ sn S t v (eD fp x v) (FH fd x v):=by
 intro lv dp il hd;have g1:(S.map eA)[t.toNat]?=some (eA x):=by rw [y8,g]; rfl
 have hp:eD fp x v=LW (fp x.elem) v.items:=by simp [eD,hk]
 have hq:FH fd x v=1 + H8 (fd x.elem) v.items:=by simp [FH,hk]
 rw [hp] at ma ⊢;rw [hq] at hd ⊢;simp only [eA,hk] at g1;refine tF cA rfl rfl ?_;rw [qA]
 match hi:v.items with
 | [] =>
  simp [cA,-V,-y3,-y0,J,eC,cE,pD,pG,rB,gM,rJ,rU,g1,h0,hk,Z9,LW,H8,eB]
 | u :: q =>
  rw [hi] at ma hd;simp only [LW,H8,ByteArray.size_append] at ma hd ⊢;have h3:=hf u (by rw [hi]; simp) (lv + 1) (max dp lv) (by omega) (by omega);have pe:max (max dp lv) (lv + 1 + (fd x.elem u:Nat) - 1)=max dp (lv + ((1 + fd x.elem u:Nat):Int) - 1):=by omega
  rw [pe] at h3;have og:IntKind.i64.wrap (lv + 1)=lv + 1:=IntWalk.i64_in _ (by omega);have h4:(ByteArray.mk #[1]).size + (fp x.elem u).size<=9223372036854775807:=by omega
  have h5:¬ ((q.length:Int) + 1=0):=by omega
  simp only [rU,qA] at h3;simp only [yl,qA];simp [cA,-V,-y3,-y0,J,eC,cE,pD,pG,rB,gM,rJ,rU,g1,h0,hk,Z9,h3,h4,h5,og]
end
end
section
theorem AU (f:Vl->ByteArray):∀ (l m:List Vl) (b:ByteArray),TD f (l++m) b=TD f m (TD f l b)
 | [],m,b=>rfl
 | v :: r,m,b=>by rw [yx,TD,TD,AU f r m]
theorem SU (f:Vl->Nat):∀ (l m:List Vl) (b:Nat),HF f (l++m) b=HF f m (HF f l b)
 | [],m,b=>rfl
 | v :: r,m,b=>by rw [yx,HF,HF,SU f r m]
theorem a8 (f:Vl->Nat):∀ (l:List Vl) (b:Nat),b<=HF f l b
 | [],b=>yf _
 | v :: r,b=>yw (Nat.le_max_left _ _) (a8 f r _)
theorem f8 (f g:Vl->ByteArray):∀ (l q:List Vl) (k v:Vl) (b:ByteArray),l.length=q.length->mE f g (l++[k]) (q++[v]) b=mE f g l q b++FD (f k)++FD (g v)
 | [],[],k,v,b,_=>rfl
 | a :: r,c :: q,k,v,b,h=>by
  rw [yx,yx,mE,mE,f8 f g r q k v _ (by simpa using h)]
theorem z8 (f g:Vl->Nat):∀ (l q:List Vl) (k v:Vl) (b:Nat),l.length=q.length->xH f g (l++[k]) (q++[v]) b=max (max (xH f g l q b) (f k)) (g v)
 | [],[],k,v,b,_=>rfl
 | a :: r,c :: q,k,v,b,h=>by
  rw [yx,yx,xH,xH,z8 f g r q k v _ (by simpa using h)]
theorem l8 (f g:Vl->ByteArray):∀ (l q:List Vl) (b:ByteArray) (i:Nat),(mE f g (l.take i) (q.take i) b).size<=(mE f g l q b).size
 | [],q,b,i=>by cases q <;> simp [mE]
 | a :: r,[],b,i=>by cases i <;> simp [mE]
 | a :: r,c :: q,b,0=>by simp only [List.take_zero]; exact DQ f g (a :: r) (c :: q) b
 | a :: r,c :: q,b,i + 1=>by
  rw [List.take_succ_cons,List.take_succ_cons,mE,mE];exact l8 f g r q _ i
theorem mapD_ge (f g:Vl->Nat):∀ (l q:List Vl) (b:Nat),b<=xH f g l q b
 | [],q,b=>by cases q <;> exact yf _
 | a :: r,[],b=>yf _
 | a :: r,c :: q,b=>yw (by omega) (mapD_ge f g r q _)
theorem c8 (f g:Vl->Nat):∀ (l q:List Vl) (b i:Nat),xH f g (l.take i) (q.take i) b<=xH f g l q b
 | [],q,b,i=>by cases q <;> simp [xH]
 | a :: r,[],b,i=>by cases i <;> simp [xH]
 | a :: r,c :: q,b,0=>by simp only [List.take_zero]; exact mapD_ge f g (a :: r) (c :: q) b
 | a :: r,c :: q,b,i + 1=>by
  rw [List.take_succ_cons,List.take_succ_cons,xH,xH];exact c8 f g r q _ i
section
variable (sn:Bool) (S:List gA) (t:Int) (x:gA) (v:Vl) (fp:Int->Vl->ByteArray) (fd:Int->Vl->Nat)
structure O6 (lv dp:Int) (b:ByteArray) (d:Nat) (wt:Nat) (i:Nat) (s:aA):Prop where
 e0:(s.env 0).v=.ptr 0 0 0
 e3:(s.env 3).v=.int .i64 lv
 e6:(s.env 6).v=.ptr 6 1 0
 m6:s.mem 6 1=some (bD v)
 e9:(s.env 9).v=.ptr 9 3 0
 m9:s.mem 9 3=some (MA x)
 e10:(s.env 10).v=.ptr 10 wt 0
 ob:s.obj 10 wt=some (iH 275 5 b)
 e84:(s.env 84).v=.sl v.xn (v.items.map pA)
 e85:(s.env 85).v=.int .i64 v.items.length
 e86:(s.env 86).v=.int .i64 i
 m0:s.mem 0 0=some [⟨.sl sn (S.map eA),rB (.sl sn (S.map eA))⟩,⟨.int .i64 (max dp (lv + d)),.no⟩]
theorem list_lp {rv:RV} (hk:x.kind=7) (ep:v.items.length<=9223372036854775807) (hf:∀ u∈v.items,jJ sn S x.elem u (fp x.elem u) (fd x.elem u)) (ma:(TD (fp x.elem) v.items eB).size<=140737488355328) {lv dp:Int} (il:0<=lv) (hd:lv + 1 + HF (fd x.elem) v.items 0<=4611686018427387904)
  (wt:Nat) (s:aA) (h:O6 sn S x v lv dp eB 0 wt 0 s) (k:Ex->aA->Option RV)
  (db:∀ s',O6 sn S x v lv dp (TD (fp x.elem) v.items eB) (HF (fd x.elem) v.items 0) wt v.items.length s'->k (.exit 1) s'=some rv):kI kA tA nB s k=some rv:=by
 refine bA v.items.length (fun i s=>O6 sn S x v lv dp (TD (fp x.elem) (v.items.take i) eB) (HF (fd x.elem) (v.items.take i) 0) wt i s) (fun e s=>e=.exit 1/\O6 sn S x v lv dp (TD (fp x.elem) v.items eB) (HF (fd x.elem) v.items 0) wt v.items.length s) (fun i hi s kk h ih db=>?_) _ _ h (fun e s h=>by obtain ⟨rfl,h⟩:=h; exact db s h);obtain ⟨e0,e3,e6,m6,e9,m9,e10,ob,e84,e85,e86,m0⟩:=h;refine uA ?_;by_cases fa:i<v.items.length
 ·have ga:(i:Int)<v.items.length:=by omega
  have p1:v.items[i]?=some v.items[i]:=y4 fa;have t1:v.items.take (i + 1)=v.items.take i++[v.items[i]]:=(yr fa).symm;have hw:=LA (i:=i);have ii:=hf _ (y5 fa);generalize v.items[i]=u at *
  have g1:(v.items.map pA)[i]?=some (pA u):=by rw [y8,p1]; rfl
  have hB:TD (fp x.elem) (v.items.take (i + 1)) eB=TD (fp x.elem) (v.items.take i) eB++FD (fp x.elem u):=by rw [t1,AU]; rfl
  have hD:HF (fd x.elem) (v.items.take (i + 1)) 0=max (HF (fd x.elem) (v.items.take i) 0) (fd x.elem u):=by rw [t1,SU]; rfl
  have hDle:HF (fd x.elem) (v.items.take (i + 1)) 0<=HF (fd x.elem) v.items 0:=by
   have h1:=SU (fd x.elem) (v.items.take (i + 1)) (v.items.drop (i + 1)) 0;rw [yR] at h1;rw [h1];exact a8 _ _ _
  have le:(TD (fp x.elem) (v.items.take (i + 1)) eB).size<=(TD (fp x.elem) v.items eB).size:=by
   have h1:=AU (fp x.elem) (v.items.take (i + 1)) (v.items.drop (i + 1)) eB;rw [yR] at h1;rw [h1];exact FO _ _ _
  rw [hB,ByteArray.size_append] at le;have hps:=pE (fp x.elem u);have h3:=ii (lv + 1) (max dp (lv + (HF (fd x.elem) (v.items.take i) 0:Nat))) (by omega) (by omega);have pe:max (max dp (lv + (HF (fd x.elem) (v.items.take i) 0:Nat))) (lv + 1 + (fd x.elem u:Nat) - 1)=max dp (lv + (max (HF (fd x.elem) (v.items.take i) 0) (fd x.elem u):Nat)):=by omega
  rw [pe,<- hD] at h3;have og:IntKind.i64.wrap (lv + 1)=lv + 1:=IntWalk.i64_in _ (by omega);have ew:=ZT (fp x.elem u) (by omega);have az:=sX (TD (fp x.elem) (v.items.take i) eB) (FD (fp x.elem u)) (by omega);rw [<- hB] at az;simp only [sA,rU,qA] at g1 h3 ew;simp only [MA,hk] at m9;simp [nB,-V,-y3,-y0,J,e0,e3,e6,m6,e9,m9,e10,ob,e84,e85,e86,m0,ga,g1,h3,ew,az,hw,og,eC,cE,pD,pG,rB,Cl.okMem,MM,AV.isUn];refine ih fa _ ⟨?_,?_,?_,?_,?_,?_,?_,?_,?_,?_,?_,?_⟩
  ·simp [e0]
  ·simp [e3]
  ·simp [e6]
  ·simp [m6]
  ·simp [e9]
  ·simp [m9,MA,hk]
  ·simp [e10]
  ·simp
  ·simp [e84]
  ·simp [e85]
  ·simp
  ·simp [rB]
 ·have ga:¬ (i:Int)<v.items.length:=by omega
  have ru:i=v.items.length:=by omega
  subst ru;rw [yv (by omega)] at ob m0;simp [nB,-V,-y3,-y0,J,e85,e86];exact db _ _ ⟨rfl,by simp [e0],by simp [e3],by simp [e6],m6,by simp [e9],m9,by simp [e10],ob,by simp [e84],by simp [e85],by simp [e86],m0⟩
theorem map_lp {rv:RV} (hk:x.kind=8) (ep:v.items.length<=9223372036854775807) (jo:v.items.length=v.keys.length) (uw:∀ u∈v.keys,jJ sn S x.key u (fp x.key u) (fd x.key u)) (hf:∀ u∈v.items,jJ sn S x.elem u (fp x.elem u) (fd x.elem u)) (ma:(mE (fp x.key) (fp x.elem) v.keys v.items eB).size<=140737488355328) {lv dp:Int} (il:0<=lv) (hd:lv + 1 + xH (fd x.key) (fd x.elem) v.keys v.items 0<=4611686018427387904)
  (wt:Nat) (s:aA) (h:O6 sn S x v lv dp eB 0 wt 0 s) (k:Ex->aA->Option RV)
  (db:∀ s',O6 sn S x v lv dp (mE (fp x.key) (fp x.elem) v.keys v.items eB) (xH (fd x.key) (fd x.elem) v.keys v.items 0) wt v.items.length s'->k (.exit 1) s'=some rv):kI kA tA nB s k=some rv:=by
 refine bA v.items.length (fun i s=>O6 sn S x v lv dp (mE (fp x.key) (fp x.elem) (v.keys.take i) (v.items.take i) eB) (xH (fd x.key) (fd x.elem) (v.keys.take i) (v.items.take i) 0) wt i s) (fun e s=>e=.exit 1/\O6 sn S x v lv dp (mE (fp x.key) (fp x.elem) v.keys v.items eB) (xH (fd x.key) (fd x.elem) v.keys v.items 0) wt v.items.length s) (fun i hi s kk h ih db=>?_) _ _ (by simpa [mE,xH] using h) (fun e s h=>by obtain ⟨rfl,h⟩:=h; exact db s h);obtain ⟨e0,e3,e6,m6,e9,m9,e10,ob,e84,e85,e86,m0⟩:=h;refine uA ?_;by_cases fa:i<v.items.length
 ·have ga:(i:Int)<v.items.length:=by omega
  have rp:i<v.keys.length:=by omega
  have p1:v.items[i]?=some v.items[i]:=y4 fa;have p2:v.keys[i]?=some v.keys[i]:=y4 rp;have t1:v.items.take (i + 1)=v.items.take i++[v.items[i]]:=(yr fa).symm;have t2:v.keys.take (i + 1)=v.keys.take i++[v.keys[i]]:=(yr rp).symm;have hw:=LA (i:=i);have ii:=hf _ (y5 fa);have ey:=uw _ (y5 rp);generalize v.items[i]=u at *
  generalize v.keys[i]=ky at *
  have g1:(v.items.map pA)[i]?=some (pA u):=by rw [y8,p1]; rfl
  have g2:(v.keys.map pA)[i]?=some (pA ky):=by rw [y8,p2]; rfl
  have hB:mE (fp x.key) (fp x.elem) (v.keys.take (i + 1)) (v.items.take (i + 1)) eB=mE (fp x.key) (fp x.elem) (v.keys.take i) (v.items.take i) eB++FD (fp x.key ky)++FD (fp x.elem u):=by rw [t1,t2,f8 _ _ _ _ _ _ _ (by simp; omega)]
  have hD:xH (fd x.key) (fd x.elem) (v.keys.take (i + 1)) (v.items.take (i + 1)) 0=max (max (xH (fd x.key) (fd x.elem) (v.keys.take i) (v.items.take i) 0) (fd x.key ky)) (fd x.elem u):=by rw [t1,t2,z8 _ _ _ _ _ _ _ (by simp; omega)]
  have hDle:=c8 (fd x.key) (fd x.elem) v.keys v.items 0 (i + 1);have le:=l8 (fp x.key) (fp x.elem) v.keys v.items eB (i + 1);rw [hB,ByteArray.size_append,ByteArray.size_append] at le;have hps:=pE (fp x.elem u);have hpk:=pE (fp x.key ky);have h2:=ey (lv + 1) (max dp (lv + (xH (fd x.key) (fd x.elem) (v.keys.take i) (v.items.take i) 0:Nat))) (by omega) (by omega);have hmax2:max (max dp (lv + (xH (fd x.key) (fd x.elem) (v.keys.take i) (v.items.take i) 0:Nat))) (lv + 1 + (fd x.key ky:Nat) - 1)=max dp (lv + (max (xH (fd x.key) (fd x.elem) (v.keys.take i) (v.items.take i) 0) (fd x.key ky):Nat)):=by omega
  rw [hmax2] at h2;have h3:=ii (lv + 1) (max dp (lv + (max (xH (fd x.key) (fd x.elem) (v.keys.take i) (v.items.take i) 0) (fd x.key ky):Nat))) (by omega) (by omega);have pe:max (max dp (lv + (max (xH (fd x.key) (fd x.elem) (v.keys.take i) (v.items.take i) 0) (fd x.key ky):Nat))) (lv + 1 + (fd x.elem u:Nat) - 1)=max dp (lv + (max (max (xH (fd x.key) (fd x.elem) (v.keys.take i) (v.items.take i) 0) (fd x.key ky)) (fd x.elem u):Nat)):=by omega
  rw [pe,<- hD] at h3;have og:IntKind.i64.wrap (lv + 1)=lv + 1:=IntWalk.i64_in _ (by omega);have ew:=ZT (fp x.elem u) (by omega);have hsk:=ZT (fp x.key ky) (by omega);have az:=sX (mE (fp x.key) (fp x.elem) (v.keys.take i) (v.items.take i) eB) (FD (fp x.key ky)) (by omega);have hws2:=sX (mE (fp x.key) (fp x.elem) (v.keys.take i) (v.items.take i) eB++FD (fp x.key ky)) (FD (fp x.elem u)) (by rw [ByteArray.size_append]; omega);rw [<- hB] at hws2;simp only [sA,rU,qA] at g1 g2 h2 h3 ew hsk;simp only [MA,hk] at m9;simp [nB,-V,-y3,-y0,J,e0,e3,e6,m6,e9,m9,e10,ob,e84,e85,e86,m0,ga,g1,g2,h2,h3,ew,hsk,az,hws2,hw,og,eC,cE,pD,pG,rB,Cl.okMem,MM,AV.isUn];refine ih fa _ ⟨?_,?_,?_,?_,?_,?_,?_,?_,?_,?_,?_,?_⟩
  ·simp [e0]
  ·simp [e3]
  ·simp [e6]
  ·simp [m6]
  ·simp [e9]
  ·simp [m9,MA,hk]
  ·simp [e10]
  ·simp
  ·simp [e84]
  ·simp [e85]
  ·simp
  ·simp [rB]
 ·have ga:¬ (i:Int)<v.items.length:=by omega
  have ru:i=v.items.length:=by omega
  subst ru;rw [yv (by omega),yv (by omega)] at ob m0;simp [nB,-V,-y3,-y0,J,e85,e86];exact db _ _ ⟨rfl,by simp [e0],by simp [e3],by simp [e6],m6,by simp [e9],m9,by simp [e10],ob,by simp [e84],by simp [e85],by simp [e86],m0⟩
variable (h0:0<=t) (g:S[t.toNat]?=some x)
include h0 g
theorem pay7 (hk:x.kind=7) (ep:v.items.length<=9223372036854775807) (hf:∀ u∈v.items,jJ sn S x.elem u (fp x.elem u) (fd x.elem u)) (ma:(eD fp x v).size<=140737488355328):jJ sn S t v (eD fp x v) (FH fd x v):=by
 intro lv dp il hd;have g1:(S.map eA)[t.toNat]?=some (eA x):=by rw [y8,g]; rfl
 have hp:eD fp x v=TD (fp x.elem) v.items eB:=by simp [eD,hk]
 have hq:FH fd x v=1 + HF (fd x.elem) v.items 0:=by simp [FH,hk]
 rw [hp] at ma ⊢;rw [hq] at hd ⊢;simp only [eA,hk] at g1;refine tF cA rfl rfl ?_;rw [qA];simp [cA,-V,-y3,-y0,J,eC,cE,pD,pG,rB,gM,rJ,rU,g1,h0,hk,Z9];refine list_lp sn S x v fp fd hk ep hf ma (lv:=lv) (dp:=dp) il (by omega) 12 _ ⟨?_,?_,?_,?_,?_,?_,?_,?_,?_,?_,?_,?_⟩ _ (fun s1 h1=>?_)
 ·simp
 ·simp
 ·simp
 ·simp
 ·simp
 ·simp [hk]
 ·simp
 ·simp [eB]
 ·simp
 ·simp
 ·simp
 ·simp [rB]
 ·obtain ⟨e0,e3,e6,m6,e9,m9,e10,ob,e84,e85,e86,m0⟩:=h1;have ph:=BW (TD (fp x.elem) v.items eB);have pe:(lv + (HF (fd x.elem) v.items 0:Nat))=lv + ((1 + HF (fd x.elem) v.items 0:Nat):Int) - 1:=by omega
  rw [pe] at m0;simp [-V,-y3,-y0,J,e10,ob,ph,Cl.okMem,MM,gM,rJ,m0]
theorem pay8 (hk:x.kind=8) (ep:v.items.length<=9223372036854775807) (jo:v.items.length=v.keys.length) (uw:∀ u∈v.keys,jJ sn S x.key u (fp x.key u) (fd x.key u)) (hf:∀ u∈v.items,jJ sn S x.elem u (fp x.elem u) (fd x.elem u)) (ma:(eD fp x v).size<=140737488355328):jJ sn S t v (eD fp x v) (FH fd x v):=by
 intro lv dp il hd;have g1:(S.map eA)[t.toNat]?=some (eA x):=by rw [y8,g]; rfl
 have hp:eD fp x v=mE (fp x.key) (fp x.elem) v.keys v.items eB:=by simp [eD,hk]
 have hq:FH fd x v=1 + xH (fd x.key) (fd x.elem) v.keys v.items 0:=by simp [FH,hk]
 rw [hp] at ma ⊢;rw [hq] at hd ⊢;simp only [eA,hk] at g1;refine tF cA rfl rfl ?_;rw [qA];simp [cA,-V,-y3,-y0,J,eC,cE,pD,pG,rB,gM,rJ,rU,g1,h0,hk,Z9];refine map_lp sn S x v fp fd hk ep jo uw hf ma (lv:=lv) (dp:=dp) il (by omega) 12 _ ⟨?_,?_,?_,?_,?_,?_,?_,?_,?_,?_,?_,?_⟩ _ (fun s1 h1=>?_)
 ·simp
 ·simp
 ·simp
 ·simp
 ·simp
 ·simp [hk]
 ·simp
 ·simp [eB]
 ·simp
 ·simp
 ·simp
 ·simp [rB]
 ·obtain ⟨e0,e3,e6,m6,e9,m9,e10,ob,e84,e85,e86,m0⟩:=h1;have ph:=BW (mE (fp x.key) (fp x.elem) v.keys v.items eB);have pe:(lv + (xH (fd x.key) (fd x.elem) v.keys v.items 0:Nat))=lv + ((1 + xH (fd x.key) (fd x.elem) v.keys v.items 0:Nat):Int) - 1:=by omega
  rw [pe] at m0;simp [-V,-y3,-y0,J,e10,ob,ph,Cl.okMem,MM,gM,rJ,m0]
end
end
section
theorem JX:∀ (l:List (Int × ByteArray)) (b:Int) (seen:List ByteArray),TC b seen l=true->(∀ x∈l,b<x.1/\1<=x.1/\x.1<=1000)/\l.Pairwise fun x y=>x.1<y.1
 | [],_,_,_=>by simp
 | (n,s) :: r,b,seen,h=>by
  simp only [TC,y7] at h;obtain ⟨⟨⟨h1,_⟩,_⟩,h2⟩:=h;have hb:b<n/\1<=n/\n<=1000:=by unfold SR at h1; simp at h1; omega
  obtain ⟨g1,g2⟩:=JX r n _ h2;refine ⟨fun x hx=>?_,List.pairwise_cons.2 ⟨fun y hy=>(g1 y hy).1,g2⟩⟩;rcases yc.1 hx with rfl | hx
  ·exact hb
  ·have:=g1 x hx; omega
theorem z6 {x:gA} (h:aB x=true):upM x.mems/\∀ m∈x.mems,1<=m.id/\m.id<=1000:=by
 unfold aB at h;rw [y7,y7] at h;obtain ⟨_,h1,h2⟩:=h;have main:∀ rc,cH rc x.mems=true->upM x.mems/\∀ m∈x.mems,1<=m.id/\m.id<=1000:=fun rc h=>by
  unfold cH at h;simp only [y7] at h;obtain ⟨h3,h4⟩:=JX _ _ _ h.2.2.1;rw [List.pairwise_map] at h4;exact ⟨h4,fun m hm=>(h3 _ (List.mem_map_of_mem hm)).2⟩
 by_cases k5:x.kind=5
 ·simp [kF,k5] at h1; exact main true h1.2
 by_cases k6:x.kind=6
 ·simp [kF,k6] at h1; exact main false h1.2
 have e:x.left.mems=x.mems:=by
  unfold gA.left;simp only [if_neg k5,if_neg k6]
  repeat' split
  all_goals rfl
 have hm:pB x.left.mems []=true:=by simp only [gA.same,y7] at h2; exact h2.2
 rw [e] at hm;cases hx:x.mems with
 | nil=>exact ⟨List.Pairwise.nil,by simp⟩
 | cons a r=>rw [hx] at hm; simp [pB] at hm
theorem up_syms {x:gA} (h:aB x=true):∀ m∈x.syms,1<=m.id/\m.id<=1000:=by
 unfold aB at h;rw [y7,y7] at h;obtain ⟨_,h1,h2⟩:=h;by_cases k4:x.kind=4
 ·simp [kF,k4] at h1;have h1:=h1.2;unfold JK at h1;simp only [y7] at h1;obtain ⟨h3,_⟩:=JX _ _ _ h1.2.1;exact fun m hm=>(h3 _ (List.mem_map_of_mem hm)).2
 have e:x.left.syms=x.syms:=by
  unfold gA.left;simp only [if_neg k4]
  repeat' split
  all_goals rfl
 have hm:decide (x.left.syms=[])=true:=by
  simp only [gA.same,y7] at h2;exact h2.1.2
 rw [e] at hm;rw [of_decide_eq_true hm];simp
theorem LZ:∀ {l:List bB},upM l->∀ {i j:Nat} {a b:bB},l[i]?=some a->l[j]?=some b->i<j->a.id<b.id
 | [],_,i,j,a,b,h,_,_=>by simp at h
 | m :: r,h,i,j,a,b,h1,h2,hij=>by
  obtain ⟨g1,g2⟩:=List.pairwise_cons.1 h
  match i,j with
  | 0,j + 1 =>
   simp at h1 h2;subst h1;exact g1 b (yQ h2)
  | i + 1,j + 1=>exact LZ g2 (i:=i) (j:=j) (by simpa using h1) (by simpa using h2) (by omega)
theorem zY {l:List bB} (h:upM l) {c:Nat} {m:bB} (hc:l[c]?=some m):aC l m.id=c:=by
 have h0:0<=aC l m.id:=by
  have h1:=nL (fun x:bB=>decide (x.id=m.id)) l;rw [List.any_eq_true.2 ⟨m,yQ hc,by simp⟩] at h1;exact of_decide_eq_true h1
 obtain ⟨g,hg,he⟩:=PQ (fun x:bB=>decide (x.id=m.id)) l (by unfold aC at h0; omega);have he:g.id=m.id:=by simpa using he
 change l[(aC l m.id).toNat]?=some g at hg;rcases Nat.lt_trichotomy (aC l m.id).toNat c with h1 | h1 | h1
 ·have:=LZ h hg hc h1; omega
 ·omega
 ·have:=LZ h hc hg h1; omega
theorem memIx_no {l:List bB} {id:Int} (h:∀ m∈l,m.id≠id):aC l id=-1:=by
 have h1:=nL (fun x:bB=>decide (x.id=id)) l;have h2:(l.any fun x=>decide (x.id=id))=false:=by
  rw [List.any_eq_false];intro m hm;simpa using h m hm
 rw [h2] at h1;have h3:=sF (fun x:bB=>decide (x.id=id)) l;have h4:¬ 0<=wC (fun x:bB=>decide (x.id=id)) l:=of_decide_eq_false h1;unfold aC;omega
def uI (sn:Bool) (S:List gA) (t:Int) (v:Vl) (p:ByteArray):Prop:=sA 123 [WB sn S,.int .i64 t,.agg (pA v)] (.str p)
theorem H3 (f:Int->Vl->ByteArray):∀ (l:List bB) (q:List Vl) (m:bB) (v:Vl) (b:ByteArray),l.length=q.length->UG f (l++[m]) (q++[v]) b=if jF m v then UG f l q b else UG f l q b++iG m.id m.crit (f m.ty v)
 | [],[],m,v,b,_=>by simp only [yK,UG]
 | a :: r,c :: q,m,v,b,h=>by
  rw [yx,yx,UG,UG,H3 f r q m v _ (by simpa using h)]
theorem gZ (f:Int->Vl->ByteArray):∀ (l:List bB) (q:List Vl) (b:ByteArray) (i:Nat),(UG f (l.take i) (q.take i) b).size<=(UG f l q b).size
 | [],q,b,i=>by cases q <;> simp [UG]
 | a :: r,[],b,i=>by cases i <;> simp [UG]
 | a :: r,c :: q,b,0=>by simp only [List.take_zero]; exact G3 f (a :: r) (c :: q) b
 | a :: r,c :: q,b,i + 1=>by
  rw [List.take_succ_cons,List.take_succ_cons,UG,UG];exact gZ f r q _ i
section
variable (sn:Bool) (S:List gA) (t:Int) (x:gA) (v:Vl) (fp:Int->Vl->ByteArray) (h0:0<=t) (g:S[t.toNat]?=some x)
include h0 g
theorem rpay1 (hk:x.kind=1):uI sn S t v (eD fp x v):=by
 have g1:(S.map eA)[t.toNat]?=some (eA x):=by rw [y8,g]; rfl
 simp only [eA,hk] at g1;refine wA (c:=FA) rfl rfl ?_;rw [qA];unfold eD;cases hb:v.b with
 | true=>simp [FA,-V,-y3,-y0,J,g1,h0,hk,hb,eB]
 | false=>simp [FA,-V,-y3,-y0,J,g1,h0,hk,hb,eB]
theorem rpay2 (hk:x.kind=2) (hi:LE v.i):uI sn S t v (eD fp x v):=by
 have g1:(S.map eA)[t.toNat]?=some (eA x):=by rw [y8,g]; rfl
 have hz:=C5 v.i hi;have hb:=rbig_ev (CZ v.i) (by unfold CZ; obtain ⟨i1,i2⟩:=hi; split <;> omega);simp only [sA,eA,hk] at g1 hz hb;refine wA (c:=FA) rfl rfl ?_;rw [qA];unfold eD;simp [FA,-V,-y3,-y0,J,g1,h0,hk,hz,hb]
theorem rpay3 (hk:x.kind=3):uI sn S t v (eD fp x v):=by
 have g1:(S.map eA)[t.toNat]?=some (eA x):=by rw [y8,g]; rfl
 simp only [eA,hk] at g1;refine wA (c:=FA) rfl rfl ?_;rw [qA];unfold eD;simp [FA,-V,-y3,-y0,J,g1,h0,hk]
theorem rpay4 (hk:x.kind=4) (LN:1<=v.id/\v.id<=1000):uI sn S t v (eD fp x v):=by
 have g1:(S.map eA)[t.toNat]?=some (eA x):=by rw [y8,g]; rfl
 have hb:=rbig_ev v.id (by omega);have h2:IntKind.u64.wrap v.id=v.id:=aE _ (by omega);simp only [sA,eA,hk] at g1 hb;refine wA (c:=FA) rfl rfl ?_;rw [qA];unfold eD;simp [FA,-V,-y3,-y0,J,g1,h0,hk,hb,h2]
theorem rpay6 (hk:x.kind=6) {m:bB} {u:Vl} (ik:x.mems.length<=9223372036854775807) (hr:v.rest=[]) (hu:v.items=[u]) (c1:0<=aC x.mems v.id) (ti:x.mems[(aC x.mems v.id).toNat]?=some m) (LN:1<=v.id/\v.id<=1000)
  (hf:uI sn S m.ty u (fp m.ty u)) (ma:(eD fp x v).size<=140737488355328):uI sn S t v (eD fp x v):=by
 have g1:(S.map eA)[t.toNat]?=some (eA x):=by rw [y8,g]; rfl
 have hp:eD fp x v=lM v.id++fp m.ty u:=by simp [eD,hk,ti,hu,armB]
 rw [hp,ByteArray.size_append] at ma;rw [hp];have hm:=L5 x v.id ik;have h1:=X5 v.id (by omega);have h2:IntKind.u64.wrap v.id=v.id:=aE _ (by omega);have h4:(lM v.id).size + (fp m.ty u).size<=9223372036854775807:=by omega
 simp only [sA,eA,uT,hk] at hm;generalize aC x.mems v.id=ix at *
 simp only [c1,decide_true] at hm;have jk:max ix 0=ix:=Int.max_eq_left c1;rw [jk] at hm;have g2:(x.mems.map nA)[ix.toNat]?=some (nA m):=by rw [y8,ti]; rfl
 simp only [uI,sA,eA,nA,qA,hk] at g1 g2 h1 hf;refine wA (c:=FA) rfl rfl ?_;rw [qA,hu,hr];simp only [yl,yo,qA];simp [FA,-V,-y3,-y0,J,g1,h0,hk,hm,g2,c1,h1,h2,hf,h4]
theorem rpay9 (hk:x.kind=9) (hf:∀ u∈v.items,uI sn S x.elem u (fp x.elem u)) (ma:(eD fp x v).size<=140737488355328):uI sn S t v (eD fp x v):=by
 have g1:(S.map eA)[t.toNat]?=some (eA x):=by rw [y8,g]; rfl
 have hp:eD fp x v=LW (fp x.elem) v.items:=by simp [eD,hk]
 rw [hp] at ma ⊢;simp only [eA,hk] at g1;refine wA (c:=FA) rfl rfl ?_;rw [qA]
 match hi:v.items with
 | []=>simp [FA,-V,-y3,-y0,J,g1,h0,hk,LW,eB]
 | u :: q =>
  rw [hi] at ma;simp only [LW,ByteArray.size_append] at ma ⊢;have h3:=hf u (by rw [hi]; simp);have h4:(ByteArray.mk #[1]).size + (fp x.elem u).size<=9223372036854775807:=by omega
  have h5:¬ ((q.length:Int) + 1=0):=by omega
  simp only [uI,sA,qA] at h3;simp only [yl,qA];simp [FA,-V,-y3,-y0,J,g1,h0,hk,h3,h4,h5]
theorem rpay7 (hk:x.kind=7) (ep:v.items.length<=9223372036854775807) (hf:∀ u∈v.items,uI sn S x.elem u (fp x.elem u)) (ma:(eD fp x v).size<=140737488355328):uI sn S t v (eD fp x v):=by
 have g1:(S.map eA)[t.toNat]?=some (eA x):=by rw [y8,g]; rfl
 have hp:eD fp x v=TD (fp x.elem) v.items eB:=by simp [eD,hk]
 rw [hp] at ma ⊢;simp only [eA,hk] at g1;refine wA (c:=FA) rfl rfl ?_;rw [qA];simp [FA,-V,-y3,-y0,J,g1,h0,hk];refine bA v.items.length (fun i s=>(s.env 3).v=.ptr 3 1 0/\s.mem 3 1=some [⟨.sl sn (S.map eA),.no⟩]/\(s.env 5).v=.ptr 5 1 0/\s.mem 5 1=some (bD v)/\(s.env 7).v=.ptr 7 2 0/\s.mem 7 2=some (MA x)/\(s.env 10).v=.str (TD (fp x.elem) (v.items.take i) eB)/\(s.env 11).v=.int .i64 i)
  (fun e s=>e=.exit 1/\(s.env 10).v=.str (TD (fp x.elem) v.items eB)) (fun i hi s kk h ih db=>?_) _ _ ?_ (fun e s h=>?_)
 ·obtain ⟨e3,m3,e5,m5,e7,m7,e10,zh⟩:=h;refine uA ?_;by_cases fa:i<v.items.length
  ·have ga:(i:Int)<v.items.length:=by omega
   have p1:v.items[i]?=some v.items[i]:=y4 fa;have t1:v.items.take (i + 1)=v.items.take i++[v.items[i]]:=(yr fa).symm;have hw:=LA (i:=i);have ii:=hf _ (y5 fa);generalize v.items[i]=u at *
   have g2:(v.items.map pA)[i]?=some (pA u):=by rw [y8,p1]; rfl
   have wx:∀ (l m:List Vl) (b:ByteArray),TD (fp x.elem) (l++m) b=TD (fp x.elem) m (TD (fp x.elem) l b):=fun l=>by
    induction l with
    | nil=>intro m b; rfl
    | cons a r ih=>intro m b; rw [yx,TD,TD,ih]
   have hB:TD (fp x.elem) (v.items.take (i + 1)) eB=TD (fp x.elem) (v.items.take i) eB++FD (fp x.elem u):=by rw [t1,wx]; rfl
   have le:(TD (fp x.elem) (v.items.take (i + 1)) eB).size<=(TD (fp x.elem) v.items eB).size:=by
    have h1:=wx (v.items.take (i + 1)) (v.items.drop (i + 1)) eB;rw [yR] at h1;rw [h1];exact FO _ _ _
   rw [hB,ByteArray.size_append] at le;have hps:=pE (fp x.elem u);have ew:=GT (fp x.elem u) (by omega);have h4:(TD (fp x.elem) (v.items.take i) eB).size + (FD (fp x.elem u)).size<=9223372036854775807:=by omega
   simp only [uI,sA,qA] at g2 ii ew;simp [XI,-V,-y3,-y0,J,e3,m3,e5,m5,e7,m7,e10,zh,ga,g2,ii,ew,h4,hw];refine ih fa _ ⟨?_,?_,?_,?_,?_,?_,?_,?_⟩
   ·simp [e3]
   ·simp [m3]
   ·simp [e5]
   ·simp [m5]
   ·simp [e7]
   ·simp [m7]
   ·rw [hB]; simp
   ·simp
  ·have ga:¬ (i:Int)<v.items.length:=by omega
   rw [yv (by omega)] at e10;simp [XI,-V,-y3,-y0,J,e5,m5,zh,ga];exact db _ _ ⟨rfl,by simp [e10]⟩
 ·simp [hk,TD,eB]
 ·obtain ⟨rfl,e10⟩:=h;simp [-V,-y3,-y0,J,e10]
theorem rpay8 (hk:x.kind=8) (ep:v.items.length<=9223372036854775807) (jo:v.items.length=v.keys.length) (uw:∀ u∈v.keys,uI sn S x.key u (fp x.key u)) (hf:∀ u∈v.items,uI sn S x.elem u (fp x.elem u)) (ma:(eD fp x v).size<=140737488355328):uI sn S t v (eD fp x v):=by
 have g1:(S.map eA)[t.toNat]?=some (eA x):=by rw [y8,g]; rfl
 have hp:eD fp x v=mE (fp x.key) (fp x.elem) v.keys v.items eB:=by simp [eD,hk]
 rw [hp] at ma ⊢;simp only [eA,hk] at g1;refine wA (c:=FA) rfl rfl ?_;rw [qA];simp [FA,-V,-y3,-y0,J,g1,h0,hk];refine bA v.items.length (fun i s=>(s.env 3).v=.ptr 3 1 0/\s.mem 3 1=some [⟨.sl sn (S.map eA),.no⟩]/\(s.env 5).v=.ptr 5 1 0/\s.mem 5 1=some (bD v)/\(s.env 7).v=.ptr 7 2 0/\s.mem 7 2=some (MA x)/\(s.env 12).v=.str (mE (fp x.key) (fp x.elem) (v.keys.take i) (v.items.take i) eB)/\(s.env 13).v=.int .i64 i)
  (fun e s=>e=.exit 3/\(s.env 12).v=.str (mE (fp x.key) (fp x.elem) v.keys v.items eB)) (fun i hi s kk h ih db=>?_) _ _ ?_ (fun e s h=>?_)
 ·obtain ⟨e3,m3,e5,m5,e7,m7,pg,cq⟩:=h;refine uA ?_;by_cases fa:i<v.items.length
  ·have ga:(i:Int)<v.items.length:=by omega
   have rp:i<v.keys.length:=by omega
   have p1:v.items[i]?=some v.items[i]:=y4 fa;have p2:v.keys[i]?=some v.keys[i]:=y4 rp;have t1:v.items.take (i + 1)=v.items.take i++[v.items[i]]:=(yr fa).symm;have t2:v.keys.take (i + 1)=v.keys.take i++[v.keys[i]]:=(yr rp).symm;have hw:=LA (i:=i);have ii:=hf _ (y5 fa);have ey:=uw _ (y5 rp);generalize v.items[i]=u at *
   generalize v.keys[i]=ky at *
   have g2:(v.items.map pA)[i]?=some (pA u):=by rw [y8,p1]; rfl
   have g3:(v.keys.map pA)[i]?=some (pA ky):=by rw [y8,p2]; rfl
   have wx:∀ (l q:List Vl) (k v:Vl) (b:ByteArray),l.length=q.length->mE (fp x.key) (fp x.elem) (l++[k]) (q++[v]) b=mE (fp x.key) (fp x.elem) l q b++FD (fp x.key k)++FD (fp x.elem v):=fun l=>by
    induction l with
    | nil =>
     intro q k v b h;cases q with
     | nil=>rfl
     | cons=>simp at h
    | cons a r ih =>
     intro q k v b h;cases q with
     | nil=>simp at h
     | cons c q=>rw [yx,yx,mE,mE,ih q k v _ (by simpa using h)]
   have ry:∀ (l q:List Vl) (b:ByteArray) (i:Nat),(mE (fp x.key) (fp x.elem) (l.take i) (q.take i) b).size<=(mE (fp x.key) (fp x.elem) l q b).size:=fun l=>by
    induction l with
    | nil=>intro q b i; cases q <;> simp [mE]
    | cons a r ih =>
     intro q b i;cases q with
     | nil=>cases i <;> simp [mE]
     | cons c q =>
      cases i with
      | zero=>simp only [List.take_zero]; exact DQ _ _ (a :: r) (c :: q) b
      | succ i=>rw [List.take_succ_cons,List.take_succ_cons,mE,mE]; exact ih q _ i
   have hB:mE (fp x.key) (fp x.elem) (v.keys.take (i + 1)) (v.items.take (i + 1)) eB=mE (fp x.key) (fp x.elem) (v.keys.take i) (v.items.take i) eB++FD (fp x.key ky)++FD (fp x.elem u):=by rw [t1,t2,wx _ _ _ _ _ (by simp; omega)]
   have le:=ry v.keys v.items eB (i + 1);rw [hB,ByteArray.size_append,ByteArray.size_append] at le;have hps:=pE (fp x.elem u);have hpk:=pE (fp x.key ky);have ew:=GT (fp x.elem u) (by omega);have hsk:=GT (fp x.key ky) (by omega);have h4:(mE (fp x.key) (fp x.elem) (v.keys.take i) (v.items.take i) eB).size + (FD (fp x.key ky)).size<=9223372036854775807:=by omega
   have h5:(mE (fp x.key) (fp x.elem) (v.keys.take i) (v.items.take i) eB++FD (fp x.key ky)).size + (FD (fp x.elem u)).size<=9223372036854775807:=by rw [ByteArray.size_append]; omega
   simp only [uI,sA,qA] at g2 g3 ii ey ew hsk;simp [ZI,-V,-y3,-y0,J,e3,m3,e5,m5,e7,m7,pg,cq,ga,g2,g3,ii,ey,ew,hsk,h4,h5,hw,-ByteArray.size_append];refine ih fa _ ⟨?_,?_,?_,?_,?_,?_,?_,?_⟩
   ·simp [e3]
   ·simp [m3]
   ·simp [e5]
   ·simp [m5]
   ·simp [e7]
   ·simp [m7]
   ·rw [hB]; simp
   ·simp
  ·have ga:¬ (i:Int)<v.items.length:=by omega
   rw [yv (by omega),yv (by omega)] at pg;simp [ZI,-V,-y3,-y0,J,e5,m5,cq,ga];exact db _ _ ⟨rfl,by simp [pg]⟩
 ·simp [hk,mE,eB]
 ·obtain ⟨rfl,pg⟩:=h;simp [-V,-y3,-y0,J,pg]
end
end
theorem rpay5 (sn:Bool) (S:List gA) (t:Int) (x:gA) (v:Vl) (fp:Int->Vl->ByteArray) (h0:0<=t) (g:S[t.toNat]?=some x) (hk:x.kind=5) (ik:x.mems.length<=8796093022206) (ba:v.items.length=x.mems.length) (hr:v.rest=[]) (gk:upM x.mems) (LN:∀ m∈x.mems,1<=m.id/\m.id<=1000) (hiok:∀ u∈v.items,u.ok)
  (hf:∀ (i:Nat) m u,x.mems[i]?=some m->v.items[i]?=some u->jF m u=false->uI sn S m.ty u (fp m.ty u))
  (ma:(eD fp x v).size<=140737488355328):uI sn S t v (eD fp x v):=by
 have g1:(S.map eA)[t.toNat]?=some (eA x):=by rw [y8,g]; rfl
 have hp:eD fp x v=UG fp x.mems v.items eB:=by simp [eD,hk]
 rw [hp] at ma ⊢;simp only [eA,hk] at g1;refine wA (c:=FA) rfl rfl ?_;rw [qA,hr];simp [FA,-V,-y3,-y0,J,g1,h0,hk];refine bA 1000 (fun j s=>∃ c,c<=x.mems.length/\(∀ m∈x.mems.take c,m.id<=j)/\(∀ m∈x.mems.drop c,(j:Int)<m.id)/\(s.env 3).v=.ptr 3 1 0/\s.mem 3 1=some [⟨.sl sn (S.map eA),.no⟩]/\(s.env 5).v=.ptr 5 1 0/\s.mem 5 1=some [⟨.int .i64 v.kind,.no⟩,⟨.bool v.b,.no⟩,⟨.int .i64 v.i,.no⟩,⟨.str v.s,.no⟩,⟨.int .i64 v.id,.no⟩,⟨.sl v.kn (v.keys.map pA),.no⟩,⟨.sl v.xn (v.items.map pA),.no⟩,⟨.sl v.rn [],.no⟩]/\(s.env 7).v=.ptr 7 2 0/\s.mem 7 2=some (MA x)/\(s.env 14).v=.str (UG fp (x.mems.take c) (v.items.take c) eB)/\(s.env 15).v=.int .i64 ((j + 1:Nat):Int))
  (fun e s=>e=.exit 5/\(s.env 14).v=.str (UG fp x.mems v.items eB)) (fun j hj s kk h ih db=>?_) _ _ ?_ (fun e s h=>?_)
 ·obtain ⟨c,hc,jy,gp,e3,m3,e5,m5,e7,m7,gd,bd⟩:=h;refine uA ?_;obtain ⟨z,hz⟩:∃ z:Int,z=((j + 1:Nat):Int):=⟨_,rfl⟩;rw [<- hz] at bd;simp only [MA,hk] at m7;by_cases fa:j<1000
  ·have ga:z<=1000:=by omega
   have zi:IntKind.i64.wrap (z + 1)=((j + 1 + 1:Nat):Int):=by rw [IntWalk.i64_in _ (by omega)]; omega
   have xj:=L5 x z (by omega);have fin1:∀ s':aA,∀ c',c'<=x.mems.length->(∀ m∈x.mems.take c',m.id<=((j + 1:Nat):Int))->(∀ m∈x.mems.drop c',(((j + 1:Nat):Int))<m.id)->(s'.env 3).v=.ptr 3 1 0->s'.mem 3 1=some [⟨.sl sn (S.map eA),.no⟩]->(s'.env 5).v=.ptr 5 1 0->s'.mem 5 1=s.mem 5 1->(s'.env 7).v=.ptr 7 2 0->s'.mem 7 2=s.mem 7 2->(s'.env 14).v=.str (UG fp (x.mems.take c') (v.items.take c') eB)->(s'.env 15).v=.int .i64 ((j + 1 + 1:Nat):Int)->kI kA tA zD s' kk=some (.str (UG fp x.mems v.items eB),none):=fun s' c' q1 q2 q3 q4 q5 q6 q7 q8 q9 q10 q11=>ih fa s' ⟨c',q1,q2,q3,q4,q5,q6,by rw [q7,m5],q8,by rw [q9,m7]; simp [MA,hk],q10,q11⟩
   by_cases jd:c<x.mems.length/\∀ m,x.mems[c]?=some m->m.id=z
   ·obtain ⟨jd,so⟩:=jd;have hcl2:c<v.items.length:=by omega
    have p1:x.mems[c]?=some x.mems[c]:=y4 jd;have p2:v.items[c]?=some v.items[c]:=y4 hcl2;have t1:x.mems.take (c + 1)=x.mems.take c++[x.mems[c]]:=(yr jd).symm;have t2:v.items.take (c + 1)=v.items.take c++[v.items[c]]:=(yr hcl2).symm;have d1:x.mems.drop c=x.mems[c] :: x.mems.drop (c + 1):=y9 jd;have hmid:=so _ p1;have nq:=zY gk p1;have huo:=hiok _ (y5 hcl2);have pz:=LN _ (y5 jd);have fy:∀ m∈x.mems.drop (c + 1),((j + 1:Nat):Int)<m.id:=fun m hm=>by
     obtain ⟨i,hi,rfl⟩:=yy hm;rw [List.length_drop] at hi;have p3:x.mems[c + 1 + i]?=some x.mems[c + 1 + i]:=y4 (by omega);have:=LZ gk p1 p3 (by omega);rw [List.getElem_drop];omega
    generalize x.mems[c]=m at *
    generalize v.items[c]=u at *
    have g2:(x.mems.map nA)[c]?=some (nA m):=by rw [y8,p1]; rfl
    have g3:(v.items.map pA)[c]?=some (pA u):=by rw [y8,p2]; rfl
    have hB:=H3 fp (x.mems.take c) (v.items.take c) m u eB (by simp; omega);rw [<- t1,<- t2] at hB;have hlo2:∀ m'∈x.mems.take (c + 1),m'.id<=((j + 1:Nat):Int):=fun m' tb=>by
     rw [t1] at tb;rcases yE.1 tb with tb | tb
     ·have:=jy m' tb; omega
     ·rw [yL.1 tb]; omega
    have hix':aC x.mems z=c:=by rw [<- hmid]; exact nq
    have hsm:=HT (SizeOf.sizeOf u + 1) u m.dflt (by omega) huo;have fx:jF m u=(m.has&&u.same m.dflt):=by unfold jF; rw [same_sym]
    simp only [sA,eA,uT,hk,hix'] at xj;have jk:max (c:Int) 0=c:=by omega
    have kq:(0:Int)<=c:=by omega
    rw [jk] at xj;simp only [kq,decide_true] at xj;simp only [sA,nA,qA] at g2 g3 hsm;cases hh:m.has with
    | true =>
     cases hsa:u.same m.dflt with
     | true =>
      rw [hsa] at hsm;have ho:jF m u=true:=by rw [fx,hh,hsa]; rfl
      rw [ho,if_pos rfl] at hB;simp [zD,-V,-y3,-y0,J,e3,m3,e5,m5,e7,m7,gd,bd,ga,xj,g2,g3,hh,hsm];refine uA ?_;simp [rF,-V,-y3,-y0,J,e5,m5];simp [-V,-y3,-y0,J,SM,bd,zi];refine fin1 _ (c + 1) (by omega) hlo2 fy ?_ ?_ ?_ ?_ ?_ ?_ ?_ ?_
      ·simp [e3]
      ·simp [m3]
      ·simp [e5]
      ·simp
      ·simp [e7]
      ·simp
      ·rw [hB]; simp [gd]
      ·simp
     | false =>
      rw [hsa] at hsm;have ho:jF m u=false:=by rw [fx,hh,hsa]; rfl
      rw [ho,if_neg (by decide)] at hB;have hpa:=hf c m u p1 p2 ho;have le:=gZ fp x.mems v.items eB (c + 1);rw [hB,ByteArray.size_append] at le;have hps:=bL m.id m.crit (fp m.ty u);have lu:=C3 m.id pz m.crit (fp m.ty u) (by omega);rw [hmid] at lu le hB;have h4:(UG fp (x.mems.take c) (v.items.take c) eB).size + (iG z m.crit (fp m.ty u)).size<=9223372036854775807:=by omega
      simp only [uI,sA,qA] at hpa lu;simp [zD,-V,-y3,-y0,J,e3,m3,e5,m5,e7,m7,gd,bd,ga,xj,g2,g3,hh,hsm,hpa,lu,h4,-ByteArray.size_append];refine uA ?_;simp [rF,-V,-y3,-y0,J,e5,m5];simp [-V,-y3,-y0,J,SM,bd,zi];refine fin1 _ (c + 1) (by omega) hlo2 fy ?_ ?_ ?_ ?_ ?_ ?_ ?_ ?_
      ·simp [e3]
      ·simp [m3]
      ·simp [e5]
      ·simp
      ·simp [e7]
      ·simp
      ·rw [hB]; simp
      ·simp
    | false =>
     have ho:jF m u=false:=by rw [fx,hh]; rfl
     rw [ho,if_neg (by decide)] at hB;have hpa:=hf c m u p1 p2 ho;have le:=gZ fp x.mems v.items eB (c + 1);rw [hB,ByteArray.size_append] at le;have hps:=bL m.id m.crit (fp m.ty u);have lu:=C3 m.id pz m.crit (fp m.ty u) (by omega);rw [hmid] at lu le hB;have h4:(UG fp (x.mems.take c) (v.items.take c) eB).size + (iG z m.crit (fp m.ty u)).size<=9223372036854775807:=by omega
     simp only [uI,sA,qA] at hpa lu;simp [zD,-V,-y3,-y0,J,e3,m3,e5,m5,e7,m7,gd,bd,ga,xj,g2,g3,hh,hpa,lu,h4,-ByteArray.size_append];refine uA ?_;simp [rF,-V,-y3,-y0,J,e5,m5];simp [-V,-y3,-y0,J,SM,bd,zi];refine fin1 _ (c + 1) (by omega) hlo2 fy ?_ ?_ ?_ ?_ ?_ ?_ ?_ ?_
     ·simp [e3]
     ·simp [m3]
     ·simp [e5]
     ·simp
     ·simp [e7]
     ·simp
     ·rw [hB]; simp
     ·simp
   ·have dd:∀ m∈x.mems,m.id≠z:=fun m hm he=>by
     obtain ⟨i,hi,rfl⟩:=yy hm;rcases Nat.lt_trichotomy i c with h1 | h1 | h1
     ·have:=jy x.mems[i] (by rw [List.mem_take_iff_getElem]; exact ⟨i,by omega,rfl⟩);omega
     ·subst h1;exact jd ⟨hi,fun m' tb=>by rw [y4 hi] at tb; injection tb with tb; rw [<- tb]; exact he⟩
     ·have hcl':c<x.mems.length:=by omega
      have q1:=gp x.mems[c] (by rw [y9 hcl']; exact yk);have q2:=LZ gk (y4 hcl') (y4 hi) h1;omega
    simp only [sA,eA,uT,hk,memIx_no dd] at xj;have fy:∀ m∈x.mems.drop c,((j + 1:Nat):Int)<m.id:=fun m hm=>by
     have q1:=gp m hm;have q2:=dd m (List.mem_of_mem_drop hm);omega
    simp at xj;simp [zD,-V,-y3,-y0,J,e3,m3,e5,m5,e7,m7,gd,bd,ga,xj];refine uA ?_;simp [rF,-V,-y3,-y0,J,e5,m5];simp [-V,-y3,-y0,J,SM,bd,zi];refine fin1 _ c hc (fun m hm=>by have:=jy m hm; omega) fy ?_ ?_ ?_ ?_ ?_ ?_ ?_ ?_
    ·simp [e3]
    ·simp [m3]
    ·simp [e5]
    ·simp
    ·simp [e7]
    ·simp
    ·simp [gd]
    ·simp
  ·have ga:¬ z<=1000:=by omega
   have hcn:c=x.mems.length:=by
    rcases Nat.lt_or_ge c x.mems.length with h1 | h1
    ·have q1:=gp x.mems[c] (by rw [y9 h1]; exact yk);have q2:=LN x.mems[c] (y5 h1);omega
    ·omega
   subst hcn;rw [yv (by omega),yv (by omega)] at gd;simp [zD,-V,-y3,-y0,J,bd,ga];exact db _ _ ⟨rfl,by simp [gd]⟩
 ·refine ⟨0,by omega,by simp,fun m hm=>?_,?_,?_,?_,?_,?_,?_,?_,?_⟩
  ·have:=LN m (by simpa using hm);simp;omega
  ·simp
  ·simp
  ·simp
  ·simp
  ·simp
  ·simp [MA,hk]
  ·simp [UG,eB]
  ·simp
 ·obtain ⟨rfl,gd⟩:=h;simp [-V,-y3,-y0,J,gd]
end Go.Proofs.YtjoaiabjebpbjaaGreat
