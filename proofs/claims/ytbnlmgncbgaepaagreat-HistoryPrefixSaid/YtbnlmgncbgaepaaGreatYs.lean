/- A part of the proof. -/
import Derived.Test.YtbnlmgncbgaepaaGreatYo
import Derived.Test.YtbnlmgncbgaepaaGreatYp
import Derived.Test.YtbnlmgncbgaepaaGreatYq
import Derived.Test.YtbnlmgncbgaepaaGreatYr
set_option linter.all false
set_option maxRecDepth 100000
set_option maxHeartbeats 8000000
open Option renaming bind_some → V
open List renaming range_succ → J, map_map → y0, getElem?_eq_getElem → y4, getElem_mem → y6, getElem?_eq_some_iff → yb, mem_of_getElem? → yk, length_append → yp, mem_append → yw, getElem_of_mem → yB
open Int renaming toNat_lt → y3
namespace Go.Proofs.YtbnlmgncbgaepaaGreat
open Go
section
variable (s:wI) (hs:s.fine) (hv:valid s.types=0) {i:Int} (h0:0<=i) (h1:i<s.types.length)
include s hs hv i h0 h1
theorem kX:fA 214 [.agg (UA s),.int .i64 i] (.int .i64 0):=by
 have h:=RY s hs;rw [hv] at h;refine wA (c:=fH) rfl rfl ?_;simp only [fA,UA] at h ⊢;have c1:¬ i<0:=by omega
 have c2:¬ (s.types.length:Int)<=i:=by omega
 simp [fH,-V,-y3,-y0,J,h,c1,c2]
theorem r10_ev:fA 120 [.agg (UA s),.int .i64 i] (.int .i64 0):=by
 have h:=RU s hs;rw [hv] at h;refine wA (c:=QK) rfl rfl ?_;simp only [fA,UA] at h ⊢;have c1:¬ i<0:=by omega
 have c2:¬ (s.types.length:Int)<=i:=by omega
 simp [QK,-V,-y3,-y0,J,h,c1,c2]
end
section
variable (w r:wI) (hw:w.fine) (hr:r.fine) (vw:valid w.types=0) (vr:valid r.types=0) {i k:Int} (hi:0<=i/\i<w.types.length) (hk:0<=k/\k<r.types.length) {v:Vl} (la:v.ok) (nd:v.i64) (hp:OI w.types i v=true)
include w r hw hr vw vr i k hi hk v la nd hp
theorem mcheck_ev :
  fA 194 [.agg (UA w),.int .i64 i,.agg (zA v),.agg (UA r),.int .i64 k] (.int .i64 0):=by
 have h1:=kX w hw vw hi.1 hi.2;have h2:=kX r hr vr hk.1 hk.2;have h3:=plain_v w.nl w.types (mO hw vw) i v la nd;rw [hp] at h3;refine wA (c:=uI) rfl rfl ?_;simp only [fA,UA,ND,uA] at h1 h2 h3 ⊢;simp [uI,-V,-y3,-y0,J,h1,h2,h3]
theorem c8 :
  fA 74 [.agg (UA w),.int .i64 i,.agg (zA v),.agg (UA r),.int .i64 k] (.int .i64 0):=by
 have h1:=r10_ev w hw vw hi.1 hi.2;have h2:=r10_ev r hr vr hk.1 hk.2;have h3:=O8 w.nl w.types (mO hw vw) i v la nd;rw [hp] at h3;refine wA (c:=WK) rfl rfl ?_;simp only [fA,UA,ND,uA] at h1 h2 h3 ⊢;simp [WK,-V,-y3,-y0,J,h1,h2,h3]
end
theorem vequal_ev:∀ (n:Nat) (v w:Vl),SizeOf.sizeOf v<n->v.ok->fA 156 [.agg (zA v),.agg (zA w)] (.bool (v.same w)):=by
 intro n
 induction n with
 | zero=>intro v w h; omega
 | succ n ih =>
  intro v w hn hv;rw [Vl.ok_def] at hv;obtain ⟨o1,o2,o3,o4,o5,o6⟩:=hv;have hr:=raws_ev v.rest w.rest o3 v.rn w.rn;have oj:=W2 156 v.keys w.keys o1 (fun x hx y _=>ih x y (by have:=Vl.keys_lt v x hx; omega) (o5 x hx)) v.kn w.kn;have ge:=W2 156 v.items w.items o2 (fun x hx y _=>ih x y (by have:=Vl.items_lt v x hx; omega) (o6 x hx)) v.xn w.xn;simp only [fA] at hr oj ge;refine wA (c:=CC) rfl rfl ?_;rw [uA,uA,Vl.same_def];by_cases h1:v.kind=w.kind
  ·by_cases h2:v.b=w.b
   ·by_cases h3:v.i=w.i
    ·by_cases h4:v.s=w.s
     ·by_cases h5:v.id=w.id
      ·by_cases h6:v.rest=w.rest
       ·cases h7:Vl.sames v.keys w.keys with
        | true=>rw [h7] at oj; simp [CC,-V,-y3,-y0,J,h1,h2,h3,h4,h5,h6 ▸ hr,h6,PF,cD,oj,ge,h7]
        | false=>rw [h7] at oj; simp [CC,-V,-y3,-y0,J,h1,h2,h3,h4,h5,h6 ▸ hr,h6,PF,cD,oj,h7]
       ·simp [CC,-V,-y3,-y0,J,h1,h2,h3,h4,h5,hr,h6]
      ·simp [CC,-V,-y3,-y0,J,h1,h2,h3,h4,h5]
     ·simp [CC,-V,-y3,-y0,J,h1,h2,h3,h4]
    ·simp [CC,-V,-y3,-y0,J,h1,h2,h3]
   ·simp [CC,-V,-y3,-y0,J,h1,h2]
  ·simp [CC,-V,-y3,-y0,J,h1]
theorem rvequal_ev (v w:Vl) (hv:v.ok):fA 191 [.agg (zA v),.agg (zA w)] (.bool (v.same w)):=by
 have h:=kY _ v w (Nat.lt_succ_self _) hv;refine wA (c:=bK) rfl rfl ?_;simp only [fA,uA] at h ⊢;simp [bK,-V,-y3,-y0,J,h]
section
variable (w r:wI) (hw:w.fine) (hr:r.fine) (vw:valid w.types=0) (vr:valid r.types=0) {x y:dA} {i k:Int} (hi:0<=i) (gx:w.types[i.toNat]?=some x) (hk:0<=k) (gy:r.types[k.toNat]?=some y) (ul:x.kind≠5/\x.kind≠6) (vk:Int) (vb:Bool) (vi:Int) (vs:ByteArray) (vd:Int) (la:(Vl.of vk vb vi vs vd).ok) (nd:(Vl.of vk vb vi vs vd).i64) (hp:OI w.types i (.of vk vb vi vs vd)=true) (nk:y.syms.length<=8796093022206) (dd:y.kind=7\/y.kind=8->0<=y.max)
include w r hw hr vw vr x y i k hi gx hk gy ul vk vb vi vs vd la nd hp nk dd
theorem reading_ev :
  fA 155 [.agg (UA w),.int .i64 i,.agg (zA (.of vk vb vi vs vd)),.agg (UA r),.int .i64 k] (.tup [.agg (zA (TM (ZO x y (.of vk vb vi vs vd)) (.of vk vb vi vs vd))),.int .i64 (if ZO x y (.of vk vb vi vs vd)=true then 0 else 12)]):=by
 have li:=(yb.1 gx).1;have lk:=(yb.1 gy).1;have h1:=mcheck_ev w r hw hr vw vr ⟨hi,by omega⟩ ⟨hk,by omega⟩ la nd hp;have h2:=pread_ev w r hi gx hk gy nk dd ul vk vb vi vs vd;refine wA (c:=ZE) rfl rfl ?_;simp only [fA,UA,LA,QP] at h1 h2 ⊢;cases hb:ZO x y (.of vk vb vi vs vd) with
 | true =>
  rw [hb] at h2;simp only [TM,if_true,LA] at h2;simp [ZE,-V,-y3,-y0,J,mC,rF,kD,DG,eC,WL,DI,h1,h2,TM,LA]
 | false =>
  rw [hb] at h2;simp [TM,LA] at h2;simp [ZE,-V,-y3,-y0,J,mC,rF,kD,DG,eC,WL,DI,h1,h2,TM,LA]
theorem A8 :
  fA 23 [.agg (UA w),.int .i64 i,.agg (zA (.of vk vb vi vs vd)),.agg (UA r),.int .i64 k] (.tup [.agg (zA (TM (ZO x y (.of vk vb vi vs vd)) (.of vk vb vi vs vd))),.int .i64 (if ZO x y (.of vk vb vi vs vd)=true then 0 else 12)]):=by
 have li:=(yb.1 gx).1;have lk:=(yb.1 gy).1;have h1:=c8 w r hw hr vw vr ⟨hi,by omega⟩ ⟨hk,by omega⟩ la nd hp;have h2:=rread_ev w r hi gx hk gy nk dd ul vk vb vi vs vd;refine wA (c:=iG) rfl rfl ?_;simp only [fA,UA,LA] at h1 h2 ⊢;cases hb:ZO x y (.of vk vb vi vs vd) with
 | true =>
  rw [hb] at h2;simp [TM,LA] at h2;simp [iG,-V,-y3,-y0,J,h1,h2,TM,LA]
 | false =>
  rw [hb] at h2;simp [TM,LA] at h2;simp [iG,-V,-y3,-y0,J,h1,h2,TM,LA]
theorem rmeans_ev (u:Vl) :
  fA 157 [.agg (UA w),.int .i64 i,.agg (zA (.of vk vb vi vs vd)),.agg (UA r),.int .i64 k,.agg (zA u)] (.bool (ZO x y (.of vk vb vi vs vd)&&(Vl.of vk vb vi vs vd).same u)):=by
 have h1:=A8 w r hw hr vw vr hi gx hk gy ul vk vb vi vs vd la nd hp nk dd;have h2:=rvequal_ev (.of vk vb vi vs vd) u la;refine wA (c:=GH) rfl rfl ?_;cases hb:ZO x y (.of vk vb vi vs vd) with
 | true =>
  rw [hb] at h1;simp only [fA,UA,LA,TM,if_true] at h1 h2 ⊢;rw [uA u] at h2 ⊢;simp [GH,-V,-y3,-y0,J,h1,h2]
 | false =>
  rw [hb] at h1;simp [TM,LA,UA] at h1 ⊢;rw [uA u];simp [GH,-V,-y3,-y0,J,h1]
end
def bH (S:List dA) (z:Int):dA:=(S[z.toNat]?).getD LB
theorem gM {S:List dA} {z:Int} (h0:0<=z) (h1:z<S.length):S[z.toNat]?=some (bH S z):=by
 unfold bH;rw [y4 (show z.toNat<S.length by omega)];rfl
theorem HP {S:List dA} {z:Int} (h0:0<=z) (h1:z<S.length):bH S z∈S:=yk (gM h0 h1)
theorem UZ {S:List dA}:∀ n i,bD S n i=none->∀ j t,i<=j->j<i + n->S[j]?=some t->ZH S t=none
 | 0,i,_,j,t,h1,h2,_=>by omega
 | n + 1,i,h,j,t,h1,h2,ht=>by
  rw [bD] at h;cases hi:S[i]? with
  | none =>
   have e1:=List.getElem?_eq_none_iff.1 hi;have e2:=(yb.1 ht).1;omega
  | some u =>
   rw [hi] at h;simp only at h;cases hd:ZH S u with
   | some d=>rw [hd] at h; cases h
   | none =>
    rw [hd] at h;by_cases e:i=j
    ·subst e;rw [hi] at ht;injection ht with ht;rw [<- ht];exact hd
    ·exact UZ n (i + 1) h j t (by omega) (by omega) ht
theorem err_dflt {S:List dA} (h:uE S=0) {x:dA} (hx:x∈S) {m:uC} (hm:m∈x.mems) (hh:m.has=true):OI S m.ty m.dflt=true:=by
 have hv:=DL h;unfold uE at h;rw [if_pos hv] at h;cases hd:bD S S.length 0 with
 | some p=>rw [hd] at h; cases h
 | none =>
  obtain ⟨j,hj,rfl⟩:=yB hx;have:=UZ _ _ hd j _ (Nat.zero_le j) (by omega) (y4 hj);unfold ZH at this;rw [Option.map_eq_none_iff,List.find?_eq_none] at this;have hb:=this m hm;unfold ML at hb;rw [hh] at hb;simpa using hb
structure DrF (S:List dA):Prop where
 fine:(⟨false,S⟩:wI).fine
 d64:(⟨false,S⟩:wI).d64
 err:uE S=0
 sm:∀ x∈S,x.sm
 hol:∀ x∈S,∀ m∈x.mems,∃ k b i s d,m.dflt=.of k b i s d
 k56:∀ x∈S,∀ m∈x.mems,m.has=true->∀ y,S[m.ty.toNat]?=some y->y.kind≠5/\y.kind≠6
theorem draft_F {l:List jC} (hl:oks l):DrF (RA l):=by
 obtain ⟨hf,h6⟩:=rwS_ok hl (dM l);have hx:∀ x∈RA l,∃ j,j<l.length/\x=zB l (j:Int):=fun x hx=>by
  obtain ⟨j,hj,rfl⟩:=yB hx;exact ⟨j,by simpa [RA] using hj,by simp [RA]⟩
 refine ⟨hf,h6,rwS_err hl (dM l),fun x hm=>?_,fun x hm m bt=>?_,fun x hm=>?_⟩
 ·obtain ⟨j,hj,rfl⟩:=hx x hm;intro hk;have la:=nF hl hj;obtain ⟨xk,xa,xb,xc,_⟩:=i9 _ la;unfold zB at hk ⊢;generalize GA l (j:Int)=x at *
  simp only at hk ⊢;split at hk
  all_goals first | (simp [dA.of] at hk; done) | skip
  ·simp only [dA.of,jC.low,jC.high];omega
  all_goals split at hk <;> simp [dA.of] at hk
 ·obtain ⟨j,hj,rfl⟩:=hx x hm;obtain ⟨rc,id,p,_,_,rfl⟩:=EY hl hj bt;simp only [TL];split
  ·unfold LJ;split
   ·exact ⟨_,_,_,_,_,rfl⟩
   ·exact ⟨_,_,_,_,_,rfl⟩
  ·exact ⟨0,false,0,⟨#[]⟩,0,rfl⟩
 ·obtain ⟨j,hj,he⟩:=yB hm;rw [<- he];exact dflt_kind hl (dM l) j hj
theorem DrF.val {S:List dA} (h:DrF S):valid S=0:=DL h.err
theorem DrF.gd {S:List dA} (h:DrF S) {x:dA} (hx:x∈S):TyGd S x:=by
 have hf:=(h.fine.2 x hx).2;refine ⟨hf.1,hf.2,fun hk=>?_⟩;obtain ⟨j,hj,rfl⟩:=yB hx;have hW:=ZD h.val _ (y6 hj);have bc:=hW.key hk;have th:=WG h.val j hj;have hg:=(XH th).1;refine ⟨bc.1,ZW hg hk,bH S S[j].key,gM bc.1 bc.2,?_⟩;have hka:RI S S[j].key=(bH S S[j].key).kind:=by unfold RI; rw [gM bc.1 bc.2]
 have h14:1<=RI S S[j].key/\RI S S[j].key<=4:=by
  unfold SC at th;by_cases c:S[j].kind=8/\¬ (1<=RI S S[j].key/\RI S S[j].key<=4)
  ·rw [if_pos c] at th;split at th
   ·cases th
   ·split at th
    ·cases th
    ·split at th <;> cases th
  ·exact Decidable.byContradiction fun h=>c ⟨hk,h⟩
 rw [hka] at h14;exact ⟨h14.1,h14.2,h.sm _ (HP bc.1 bc.2)⟩
theorem good_max0 {x:dA} (h:mB x=true) (hk:x.kind=7\/x.kind=8):0<=x.max:=by
 unfold mB JI at h;rcases hk with hk | hk <;> simp [hk] at h <;> omega
def mnsP (W R:List dA) (f g:uC):Bool:=ZO (bH W f.ty) (bH R g.ty) f.dflt&&f.dflt.same g.dflt
theorem means2 {W R:List dA} (hw:DrF W) (hr:DrF R) {x y:dA} (hx:x∈W) (hy:y∈R):jW ⟨false,W⟩ ⟨false,R⟩ (mnsP W R) x.mems y.mems:=by
 intro f hf g hg lj te;have wx:=(ZD hw.val x hx).mems f hf;have wy:=(ZD hr.val y hy).mems g hg;have gx:=gM wx.1 wx.2;have gy:=gM wy.1 wy.2;have ul:=hw.k56 x hx f hf lj _ gx;have hp:=err_dflt hw.err hx hf lj;have la:=((hw.fine.2 x hx).1.2.2 f hf).1;have nd:=hw.d64 x hx f hf;have nk:=(hr.fine.2 _ (HP wy.1 wy.2)).2.1;have dd:(bH R g.ty).kind=7\/(bH R g.ty).kind=8->0<=(bH R g.ty).max:=fun hk=>by
  obtain ⟨j,hj,he⟩:=yB (HP wy.1 wy.2);rw [<- he] at hk ⊢;exact good_max0 (XH (WG hr.val j hj)).1 hk
 obtain ⟨vk,vb,vi,vs,vd,hd⟩:=hw.hol x hx f hf;unfold mnsP;rw [hd] at hp la nd ⊢;have h1:=reading_ev ⟨false,W⟩ ⟨false,R⟩ hw.fine hr.fine hw.val hr.val wx.1 gx wy.1 gy ul vk vb vi vs vd la nd hp nk dd;have h2:=rmeans_ev ⟨false,W⟩ ⟨false,R⟩ hw.fine hr.fine hw.val hr.val wx.1 gx wy.1 gy ul vk vb vi vs vd la nd hp nk dd g.dflt;refine ⟨⟨_,_,h1,?_,?_⟩,h2⟩
 ·intro he;cases hb:ZO (bH W f.ty) (bH R g.ty) (.of vk vb vi vs vd) with
  | false=>rw [hb] at he; simp at he
  | true=>exact vequal_ev _ _ _ (Nat.lt_succ_self _) la
 ·intro he;cases hb:ZO (bH W f.ty) (bH R g.ty) (.of vk vb vi vs vd) with
  | true=>rw [hb] at he; simp at he
  | false=>rfl
def nxP (W R:List dA) (p:Pr):List Pr:=WN (bH W p.1) (bH R p.2)
noncomputable def rsP (W R:List dA) (p:Pr):Int:=rsnP (mnsP W R) W (bH W p.1) (bH R p.2)
theorem DrF.few {S:List dA} (h:DrF S) {x:dA} (hx:x∈S):x.mems.length<=16:=(ZD h.val x hx).few
theorem simF {W R:List dA} (hw:DrF W) (hr:DrF R):x9 ⟨false,W⟩ ⟨false,R⟩ (nxP W R) (rsP W R):=by
 have all:∀ p,PO W.length R.length p->W[p.1.toNat]?=some (bH W p.1)/\R[p.2.toNat]?=some (bH R p.2)/\bH W p.1∈W/\bH R p.2∈R:=fun p ⟨h1,h2,h3,h4⟩=>⟨gM h1 h2,gM h3 h4,HP h1 h2,HP h3 h4⟩
 refine ⟨fun p hp=>?_,fun p hp=>?_,fun p hp=>?_,fun p hp=>?_,fun p hp q hq=>?_,fun p hp=>?_,KI hw.val,KI hr.val⟩
 ·obtain ⟨g1,g2,m1,m2⟩:=all p hp;exact pZ ⟨false,W⟩ ⟨false,R⟩ hp.1 g1 hp.2.2.1 g2 (by have:=hw.few m1; omega) (by have:=hr.few m2; omega)
 ·obtain ⟨g1,g2,m1,m2⟩:=all p hp;exact next_ev ⟨false,W⟩ ⟨false,R⟩ hp.1 g1 hp.2.2.1 g2 (by have:=hw.few m1; omega) (by have:=hr.few m2; omega)
 ·obtain ⟨g1,g2,m1,m2⟩:=all p hp;exact reason_ev ⟨false,W⟩ ⟨false,R⟩ hp.1 g1 hp.2.2.1 g2 (hw.gd m1) (hr.gd m2) (means2 hw hr m1 m2)
 ·obtain ⟨g1,g2,m1,m2⟩:=all p hp;exact rreason_ev ⟨false,W⟩ ⟨false,R⟩ hp.1 g1 hp.2.2.1 g2 (hw.gd m1) (hr.gd m2) (means2 hw hr m1 m2)
 ·obtain ⟨g1,g2,m1,m2⟩:=all p hp;have wx:=ZD hw.val _ m1;have wy:=ZD hr.val _ m2;simp only [nxP,WN] at hq;split at hq
  case isFalse=>cases hq
  rename_i hk;rw [aN] at hq;rcases hq with hq | hq
  ·cases hq
  rw [yw,yw] at hq;rcases hq with (hq | hq) | hq
  ·unfold lN at hq;rw [List.mem_flatMap] at hq;obtain ⟨f,hf,hq⟩:=hq;unfold i2 at hq;split at hq
   ·split at hq
    ·rename_i g hg;simp at hq;subst hq;have a:=wx.mems f hf;have b:=wy.mems g (yk hg);exact ⟨a.1,a.2,b.1,b.2⟩
    ·cases hq
   ·cases hq
  ·unfold O2 at hq;split at hq
   ·rename_i h8;simp at hq;subst hq;have a:=wx.key h8.1;have b:=wy.key (by rw [<- hk]; exact h8.1);exact ⟨a.1,a.2,b.1,b.2⟩
   ·cases hq
  ·unfold tS at hq;split at hq
   ·rename_i h8;simp at hq;subst hq;have a:=wx.elem (by omega);have b:=wy.elem (by rw [<- hk]; omega);exact ⟨a.1,a.2,b.1,b.2⟩
   ·cases hq
 ·obtain ⟨_,_,m1,_⟩:=all p hp;have h1:=hw.few m1;unfold nxP WN;split
  ·have h2:=sN (lN (bH W p.1).mems (bH R p.2).mems++O2 (bH W p.1) (bH R p.2)++tS (bH W p.1) (bH R p.2)) [];have h3:=pP (bH R p.2).mems (bH W p.1).mems;have h4:(O2 (bH W p.1) (bH R p.2)).length<=1:=by unfold O2; split <;> simp
   have h5:(tS (bH W p.1) (bH R p.2)).length<=1:=by unfold tS; split <;> simp
   simp only [yp,List.length_nil] at h2;omega
  ·simp
end Go.Proofs.YtbnlmgncbgaepaaGreat
