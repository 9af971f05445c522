/- A part of the proof. -/
import Derived.Test.YtbnlmgncbgaepaaGreatWo
import Derived.Test.YtbnlmgncbgaepaaGreatWp
import Derived.Test.YtbnlmgncbgaepaaGreatWq
import Derived.Test.YtbnlmgncbgaepaaGreatWr
set_option linter.all false
set_option maxRecDepth 100000
set_option maxHeartbeats 8000000
open Option renaming bind_some → V
open List renaming range_succ → J, map_map → y0, getElem?_eq_getElem → y5, getElem_mem → y6, getElem?_eq_some_iff → yb, mem_of_getElem? → yj, length_append → yp, mem_append → yu, getElem_of_mem → yx
open Int renaming toNat_lt → y3
namespace Go.Proofs.YtbnlmgncbgaepaaGreat
open Go
section
variable (s:Sch) (hs:s.fine) (hv:valid s.types=0) {i:Int} (h0:0<=i) (h1:i<s.types.length)
include s hs hv i h0 h1
theorem mexists_ev:evA 214 [.agg (schC s),.int .i64 i] (.int .i64 0):=by
 have h:=valid_ev s hs;rw [hv] at h;refine q00 (c:=q3Z) rfl rfl ?_;simp only [evA,schC] at h ⊢;have c1:¬ i<0:=by omega
 have c2:¬ (s.types.length:Int)<=i:=by omega
 simp [q3Z,-V,-y3,-y0,J,h,c1,c2]
theorem r10_ev:evA 120 [.agg (schC s),.int .i64 i] (.int .i64 0):=by
 have h:=rvalid_ev s hs;rw [hv] at h;refine q00 (c:=q69) rfl rfl ?_;simp only [evA,schC] at h ⊢;have c1:¬ i<0:=by omega
 have c2:¬ (s.types.length:Int)<=i:=by omega
 simp [q69,-V,-y3,-y0,J,h,c1,c2]
end
section
variable (w r:Sch) (hw:w.fine) (hr:r.fine) (vw:valid w.types=0) (vr:valid r.types=0) {i k:Int} (hi:0<=i/\i<w.types.length) (hk:0<=k/\k<r.types.length) {v:Vl} (la:v.ok) (od:v.i64) (hp:q60 w.types i v=true)
include w r hw hr vw vr i k hi hk v la od hp
theorem mcheck_ev :
  evA 194 [.agg (schC w),.int .i64 i,.agg (valC v),.agg (schC r),.int .i64 k] (.int .i64 0):=by
 have h1:=mexists_ev w hw vw hi.1 hi.2;have h2:=mexists_ev r hr vr hk.1 hk.2;have h3:=plain_v w.nl w.types (q8V hw vw) i v la od;rw [hp] at h3;refine q00 (c:=q4y) rfl rfl ?_;simp only [evA,schC,schA,q04] at h1 h2 h3 ⊢;simp [q4y,-V,-y3,-y0,J,h1,h2,h3]
theorem r14Error_ev :
  evA 74 [.agg (schC w),.int .i64 i,.agg (valC v),.agg (schC r),.int .i64 k] (.int .i64 0):=by
 have h1:=r10_ev w hw vw hi.1 hi.2;have h2:=r10_ev r hr vr hk.1 hk.2;have h3:=rplain_v w.nl w.types (q8V hw vw) i v la od;rw [hp] at h3;refine q00 (c:=q6b) rfl rfl ?_;simp only [evA,schC,schA,q04] at h1 h2 h3 ⊢;simp [q6b,-V,-y3,-y0,J,h1,h2,h3]
end
theorem vequal_ev:∀ (n:Nat) (v w:Vl),SizeOf.sizeOf v<n->v.ok->evA 156 [.agg (valC v),.agg (valC w)] (.bool (v.same w)):=by
 intro n
 induction n with
 | zero=>intro v w h; omega
 | succ n ih =>
  intro v w hn hv;rw [Vl.ok_def] at hv;obtain ⟨o1,o2,o3,o4,o5,o6⟩:=hv;have hr:=raws_ev v.rest w.rest o3 v.rn w.rn;have oj:=eqf_ev 156 v.keys w.keys o1 (fun x hx y _=>ih x y (by have:=Vl.keys_lt v x hx; omega) (o5 x hx)) v.kn w.kn;have fe:=eqf_ev 156 v.items w.items o2 (fun x hx y _=>ih x y (by have:=Vl.items_lt v x hx; omega) (o6 x hx)) v.xn w.xn;simp only [evA] at hr oj fe;refine q00 (c:=q1u) rfl rfl ?_;rw [q04,q04,Vl.same_def];by_cases h1:v.kind=w.kind
  ·by_cases h2:v.b=w.b
   ·by_cases h3:v.i=w.i
    ·by_cases h4:v.s=w.s
     ·by_cases h5:v.id=w.id
      ·by_cases h6:v.rest=w.rest
       ·cases h7:Vl.sames v.keys w.keys with
        | true=>rw [h7] at oj; simp [q1u,-V,-y3,-y0,J,h1,h2,h3,h4,h5,h6 ▸ hr,h6,q5y,q2G,oj,fe,h7]
        | false=>rw [h7] at oj; simp [q1u,-V,-y3,-y0,J,h1,h2,h3,h4,h5,h6 ▸ hr,h6,q5y,q2G,oj,h7]
       ·simp [q1u,-V,-y3,-y0,J,h1,h2,h3,h4,h5,hr,h6]
      ·simp [q1u,-V,-y3,-y0,J,h1,h2,h3,h4,h5]
     ·simp [q1u,-V,-y3,-y0,J,h1,h2,h3,h4]
    ·simp [q1u,-V,-y3,-y0,J,h1,h2,h3]
   ·simp [q1u,-V,-y3,-y0,J,h1,h2]
  ·simp [q1u,-V,-y3,-y0,J,h1]
theorem rvequal_ev (v w:Vl) (hv:v.ok):evA 191 [.agg (valC v),.agg (valC w)] (.bool (v.same w)):=by
 have h:=rsame_ev _ v w (Nat.lt_succ_self _) hv;refine q00 (c:=q66) rfl rfl ?_;simp only [evA,q04] at h ⊢;simp [q66,-V,-y3,-y0,J,h]
section
variable (w r:Sch) (hw:w.fine) (hr:r.fine) (vw:valid w.types=0) (vr:valid r.types=0) {x y:Typ} {i k:Int} (hi:0<=i) (gx:w.types[i.toNat]?=some x) (hk:0<=k) (gy:r.types[k.toNat]?=some y) (dm:x.kind≠5/\x.kind≠6) (vk:Int) (vb:Bool) (vi:Int) (vs:ByteArray) (vd:Int) (la:(Vl.of vk vb vi vs vd).ok) (od:(Vl.of vk vb vi vs vd).i64) (hp:q60 w.types i (.of vk vb vi vs vd)=true) (ik:y.syms.length<=8796093022206) (ad:y.kind=7\/y.kind=8->0<=y.max)
include w r hw hr vw vr x y i k hi gx hk gy dm vk vb vi vs vd la od hp ik ad
theorem reading_ev :
  evA 155 [.agg (schC w),.int .i64 i,.agg (valC (.of vk vb vi vs vd)),.agg (schC r),.int .i64 k] (.tup [.agg (valC (rdV (rdOk x y (.of vk vb vi vs vd)) (.of vk vb vi vs vd))),.int .i64 (if rdOk x y (.of vk vb vi vs vd)=true then 0 else 12)]):=by
 have li:=(yb.1 gx).1;have lk:=(yb.1 gy).1;have h1:=mcheck_ev w r hw hr vw vr ⟨hi,by omega⟩ ⟨hk,by omega⟩ la od hp;have h2:=pread_ev w r hi gx hk gy ik ad dm vk vb vi vs vd;refine q00 (c:=q2L) rfl rfl ?_;simp only [evA,schC,q0q,pairC] at h1 h2 ⊢;cases hb:rdOk x y (.of vk vb vi vs vd) with
 | true =>
  rw [hb] at h2;simp only [rdV,if_true,q0q] at h2;simp [q2L,-V,-y3,-y0,J,q1w,q3C,q2z,q6l,q1C,finR,q7u,h1,h2,rdV,q0q]
 | false =>
  rw [hb] at h2;simp [rdV,q0q] at h2;simp [q2L,-V,-y3,-y0,J,q1w,q3C,q2z,q6l,q1C,finR,q7u,h1,h2,rdV,q0q]
theorem rreading_ev :
  evA 23 [.agg (schC w),.int .i64 i,.agg (valC (.of vk vb vi vs vd)),.agg (schC r),.int .i64 k] (.tup [.agg (valC (rdV (rdOk x y (.of vk vb vi vs vd)) (.of vk vb vi vs vd))),.int .i64 (if rdOk x y (.of vk vb vi vs vd)=true then 0 else 12)]):=by
 have li:=(yb.1 gx).1;have lk:=(yb.1 gy).1;have h1:=r14Error_ev w r hw hr vw vr ⟨hi,by omega⟩ ⟨hk,by omega⟩ la od hp;have h2:=rread_ev w r hi gx hk gy ik ad dm vk vb vi vs vd;refine q00 (c:=q3v) rfl rfl ?_;simp only [evA,schC,q0q] at h1 h2 ⊢;cases hb:rdOk x y (.of vk vb vi vs vd) with
 | true =>
  rw [hb] at h2;simp [rdV,q0q] at h2;simp [q3v,-V,-y3,-y0,J,h1,h2,rdV,q0q]
 | false =>
  rw [hb] at h2;simp [rdV,q0q] at h2;simp [q3v,-V,-y3,-y0,J,h1,h2,rdV,q0q]
theorem rmeans_ev (u:Vl) :
  evA 157 [.agg (schC w),.int .i64 i,.agg (valC (.of vk vb vi vs vd)),.agg (schC r),.int .i64 k,.agg (valC u)] (.bool (rdOk x y (.of vk vb vi vs vd)&&(Vl.of vk vb vi vs vd).same u)):=by
 have h1:=rreading_ev w r hw hr vw vr hi gx hk gy dm vk vb vi vs vd la od hp ik ad;have h2:=rvequal_ev (.of vk vb vi vs vd) u la;refine q00 (c:=q4H) rfl rfl ?_;cases hb:rdOk x y (.of vk vb vi vs vd) with
 | true =>
  rw [hb] at h1;simp only [evA,schC,q0q,rdV,if_true] at h1 h2 ⊢;rw [q04 u] at h2 ⊢;simp [q4H,-V,-y3,-y0,J,h1,h2]
 | false =>
  rw [hb] at h1;simp [rdV,q0q,schC] at h1 ⊢;rw [q04 u];simp [q4H,-V,-y3,-y0,J,h1]
end
def tyAt (S:List Typ) (z:Int):Typ:=(S[z.toNat]?).getD q1S
theorem q7b {S:List Typ} {z:Int} (h0:0<=z) (h1:z<S.length):S[z.toNat]?=some (tyAt S z):=by
 unfold tyAt;rw [y5 (show z.toNat<S.length by omega)];rfl
theorem q7Z {S:List Typ} {z:Int} (h0:0<=z) (h1:z<S.length):tyAt S z∈S:=yj (q7b h0 h1)
theorem dflts_all {S:List Typ}:∀ n i,q2k S n i=none->∀ j t,i<=j->j<i + n->S[j]?=some t->q7d S t=none
 | 0,i,_,j,t,h1,h2,_=>by omega
 | n + 1,i,h,j,t,h1,h2,ht=>by
  rw [q2k] at h;cases hi:S[i]? with
  | none =>
   have e1:=List.getElem?_eq_none_iff.1 hi;have e2:=(yb.1 ht).1;omega
  | some u =>
   rw [hi] at h;simp only at h;cases hd:q7d S u with
   | some d=>rw [hd] at h; cases h
   | none =>
    rw [hd] at h;by_cases e:i=j
    ·subst e;rw [hi] at ht;injection ht with ht;rw [<- ht];exact hd
    ·exact dflts_all n (i + 1) h j t (by omega) (by omega) ht
theorem err_dflt {S:List Typ} (h:q39 S=0) {x:Typ} (hx:x∈S) {m:Mem} (hm:m∈x.mems) (hh:m.has=true):q60 S m.ty m.dflt=true:=by
 have hv:=q7t h;unfold q39 at h;rw [if_pos hv] at h;cases hd:q2k S S.length 0 with
 | some p=>rw [hd] at h; cases h
 | none =>
  obtain ⟨j,hj,rfl⟩:=yx hx;have:=dflts_all _ _ hd j _ (Nat.zero_le j) (by omega) (y5 hj);unfold q7d at this;rw [Option.map_eq_none_iff,List.find?_eq_none] at this;have hb:=this m hm;unfold badM at hb;rw [hh] at hb;simpa using hb
structure DrF (S:List Typ):Prop where
 fine:(⟨false,S⟩:Sch).fine
 d64:(⟨false,S⟩:Sch).d64
 err:q39 S=0
 sm:∀ x∈S,x.sm
 hol:∀ x∈S,∀ m∈x.mems,∃ k b i s d,m.dflt=.of k b i s d
 k56:∀ x∈S,∀ m∈x.mems,m.has=true->∀ y,S[m.ty.toNat]?=some y->y.kind≠5/\y.kind≠6
theorem draft_F {l:List Nde} (hl:oks l):DrF (q0k l):=by
 obtain ⟨hf,h6⟩:=rwS_ok hl (q7X l);have hx:∀ x∈q0k l,∃ j,j<l.length/\x=typZ l (j:Int):=fun x hx=>by
  obtain ⟨j,hj,rfl⟩:=yx hx;exact ⟨j,by simpa [q0k] using hj,by simp [q0k]⟩
 refine ⟨hf,h6,rwS_err hl (q7X l),fun x hm=>?_,fun x hm m dt=>?_,fun x hm=>?_⟩
 ·obtain ⟨j,hj,rfl⟩:=hx x hm;intro hk;have la:=q3P hl hj;obtain ⟨xk,xa,xb,xc,_⟩:=hx0 _ la;unfold typZ at hk ⊢;generalize ndAt l (j:Int)=x at *
  simp only at hk ⊢;split at hk
  all_goals first | (simp [Typ.of] at hk; done) | skip
  ·simp only [Typ.of,Nde.low,Nde.high];omega
  all_goals split at hk <;> simp [Typ.of] at hk
 ·obtain ⟨j,hj,rfl⟩:=hx x hm;obtain ⟨rc,id,p,_,_,rfl⟩:=typZ_mem hl hj dt;simp only [memZ];split
  ·unfold q84;split
   ·exact ⟨_,_,_,_,_,rfl⟩
   ·exact ⟨_,_,_,_,_,rfl⟩
  ·exact ⟨0,false,0,⟨#[]⟩,0,rfl⟩
 ·obtain ⟨j,hj,he⟩:=yx hm;rw [<- he];exact dflt_kind hl (q7X l) j hj
theorem DrF.val {S:List Typ} (h:DrF S):valid S=0:=q7t h.err
theorem DrF.gd {S:List Typ} (h:DrF S) {x:Typ} (hx:x∈S):TyGd S x:=by
 have hf:=(h.fine.2 x hx).2;refine ⟨hf.1,hf.2,fun hk=>?_⟩;obtain ⟨j,hj,rfl⟩:=yx hx;have hW:=q1R h.val _ (y6 hj);have bc:=hW.key hk;have sh:=q3E h.val j hj;have hg:=(q4W sh).1;refine ⟨bc.1,good_max hg hk,tyAt S S[j].key,q7b bc.1 bc.2,?_⟩;have bI:q6H S S[j].key=(tyAt S S[j].key).kind:=by unfold q6H; rw [q7b bc.1 bc.2]
 have lG:1<=q6H S S[j].key/\q6H S S[j].key<=4:=by
  unfold q22 at sh;by_cases c:S[j].kind=8/\¬ (1<=q6H S S[j].key/\q6H S S[j].key<=4)
  ·rw [if_pos c] at sh;split at sh
   ·cases sh
   ·split at sh
    ·cases sh
    ·split at sh <;> cases sh
  ·exact Decidable.byContradiction fun h=>c ⟨hk,h⟩
 rw [bI] at lG;exact ⟨lG.1,lG.2,h.sm _ (q7Z bc.1 bc.2)⟩
theorem good_max0 {x:Typ} (h:q0L x=true) (hk:x.kind=7\/x.kind=8):0<=x.max:=by
 unfold q0L q6R at h;rcases hk with hk | hk <;> simp [hk] at h <;> omega
def mnsP (W R:List Typ) (f g:Mem):Bool:=rdOk (tyAt W f.ty) (tyAt R g.ty) f.dflt&&f.dflt.same g.dflt
theorem means2 {W R:List Typ} (hw:DrF W) (hr:DrF R) {x y:Typ} (hx:x∈W) (hy:y∈R):Means2 ⟨false,W⟩ ⟨false,R⟩ (mnsP W R) x.mems y.mems:=by
 intro f hf g hg lj ue;have wx:=(q1R hw.val x hx).mems f hf;have wy:=(q1R hr.val y hy).mems g hg;have gx:=q7b wx.1 wx.2;have gy:=q7b wy.1 wy.2;have dm:=hw.k56 x hx f hf lj _ gx;have hp:=err_dflt hw.err hx hf lj;have la:=((hw.fine.2 x hx).1.2.2 f hf).1;have od:=hw.d64 x hx f hf;have ik:=(hr.fine.2 _ (q7Z wy.1 wy.2)).2.1;have ad:(tyAt R g.ty).kind=7\/(tyAt R g.ty).kind=8->0<=(tyAt R g.ty).max:=fun hk=>by
  obtain ⟨j,hj,he⟩:=yx (q7Z wy.1 wy.2);rw [<- he] at hk ⊢;exact good_max0 (q4W (q3E hr.val j hj)).1 hk
 obtain ⟨vk,vb,vi,vs,vd,hd⟩:=hw.hol x hx f hf;unfold mnsP;rw [hd] at hp la od ⊢;have h1:=reading_ev ⟨false,W⟩ ⟨false,R⟩ hw.fine hr.fine hw.val hr.val wx.1 gx wy.1 gy dm vk vb vi vs vd la od hp ik ad;have h2:=rmeans_ev ⟨false,W⟩ ⟨false,R⟩ hw.fine hr.fine hw.val hr.val wx.1 gx wy.1 gy dm vk vb vi vs vd la od hp ik ad g.dflt;refine ⟨⟨_,_,h1,?_,?_⟩,h2⟩
 ·intro he;cases hb:rdOk (tyAt W f.ty) (tyAt R g.ty) (.of vk vb vi vs vd) with
  | false=>rw [hb] at he; simp at he
  | true=>exact vequal_ev _ _ _ (Nat.lt_succ_self _) la
 ·intro he;cases hb:rdOk (tyAt W f.ty) (tyAt R g.ty) (.of vk vb vi vs vd) with
  | true=>rw [hb] at he; simp at he
  | false=>rfl
def nxP (W R:List Typ) (p:Pr):List Pr:=q9f (tyAt W p.1) (tyAt R p.2)
noncomputable def rsP (W R:List Typ) (p:Pr):Int:=rsnP (mnsP W R) W (tyAt W p.1) (tyAt R p.2)
theorem DrF.few {S:List Typ} (h:DrF S) {x:Typ} (hx:x∈S):x.mems.length<=16:=(q1R h.val x hx).few
theorem simF {W R:List Typ} (hw:DrF W) (hr:DrF R):SimF ⟨false,W⟩ ⟨false,R⟩ (nxP W R) (rsP W R):=by
 have all:∀ p,inP W.length R.length p->W[p.1.toNat]?=some (tyAt W p.1)/\R[p.2.toNat]?=some (tyAt R p.2)/\tyAt W p.1∈W/\tyAt R p.2∈R:=fun p ⟨h1,h2,h3,h4⟩=>⟨q7b h1 h2,q7b h3 h4,q7Z h1 h2,q7Z h3 h4⟩
 refine ⟨fun p hp=>?_,fun p hp=>?_,fun p hp=>?_,fun p hp=>?_,fun p hp q hq=>?_,fun p hp=>?_,q5I hw.val,q5I hr.val⟩
 ·obtain ⟨g1,g2,m1,m2⟩:=all p hp;exact successors_ev ⟨false,W⟩ ⟨false,R⟩ hp.1 g1 hp.2.2.1 g2 (by have:=hw.few m1; omega) (by have:=hr.few m2; omega)
 ·obtain ⟨g1,g2,m1,m2⟩:=all p hp;exact next_ev ⟨false,W⟩ ⟨false,R⟩ hp.1 g1 hp.2.2.1 g2 (by have:=hw.few m1; omega) (by have:=hr.few m2; omega)
 ·obtain ⟨g1,g2,m1,m2⟩:=all p hp;exact reason_ev ⟨false,W⟩ ⟨false,R⟩ hp.1 g1 hp.2.2.1 g2 (hw.gd m1) (hr.gd m2) (means2 hw hr m1 m2)
 ·obtain ⟨g1,g2,m1,m2⟩:=all p hp;exact rreason_ev ⟨false,W⟩ ⟨false,R⟩ hp.1 g1 hp.2.2.1 g2 (hw.gd m1) (hr.gd m2) (means2 hw hr m1 m2)
 ·obtain ⟨g1,g2,m1,m2⟩:=all p hp;have wx:=q1R hw.val _ m1;have wy:=q1R hr.val _ m2;simp only [nxP,q9f] at hq;split at hq
  case isFalse=>cases hq
  rename_i hk;rw [q7p] at hq;rcases hq with hq | hq
  ·cases hq
  rw [yu,yu] at hq;rcases hq with (hq | hq) | hq
  ·unfold comL at hq;rw [List.mem_flatMap] at hq;obtain ⟨f,hf,hq⟩:=hq;unfold comM at hq;split at hq
   ·split at hq
    ·rename_i g hg;simp at hq;subst hq;have a:=wx.mems f hf;have b:=wy.mems g (yj hg);exact ⟨a.1,a.2,b.1,b.2⟩
    ·cases hq
   ·cases hq
  ·unfold keyL at hq;split at hq
   ·rename_i h8;simp at hq;subst hq;have a:=wx.key h8.1;have b:=wy.key (by rw [<- hk]; exact h8.1);exact ⟨a.1,a.2,b.1,b.2⟩
   ·cases hq
  ·unfold elemL at hq;split at hq
   ·rename_i h8;simp at hq;subst hq;have a:=wx.elem (by omega);have b:=wy.elem (by rw [<- hk]; omega);exact ⟨a.1,a.2,b.1,b.2⟩
   ·cases hq
 ·obtain ⟨_,_,m1,_⟩:=all p hp;have h1:=hw.few m1;unfold nxP q9f;split
  ·have h2:=q8H (comL (tyAt W p.1).mems (tyAt R p.2).mems++keyL (tyAt W p.1) (tyAt R p.2)++elemL (tyAt W p.1) (tyAt R p.2)) [];have h3:=q9N (tyAt R p.2).mems (tyAt W p.1).mems;have h4:(keyL (tyAt W p.1) (tyAt R p.2)).length<=1:=by unfold keyL; split <;> simp
   have h5:(elemL (tyAt W p.1) (tyAt R p.2)).length<=1:=by unfold elemL; split <;> simp
   simp only [yp,List.length_nil] at h2;omega
  ·simp
end Go.Proofs.YtbnlmgncbgaepaaGreat
