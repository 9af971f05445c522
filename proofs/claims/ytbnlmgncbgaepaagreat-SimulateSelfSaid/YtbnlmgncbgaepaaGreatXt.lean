/- A part of the proof. -/
import Derived.Test.YtbnlmgncbgaepaaGreatXo
import Derived.Test.YtbnlmgncbgaepaaGreatXp
import Derived.Test.YtbnlmgncbgaepaaGreatXr
import Derived.Test.YtbnlmgncbgaepaaGreatXs
set_option linter.all false
set_option maxRecDepth 100000
set_option maxHeartbeats 8000000
open Option renaming bind_some → V
open List renaming range_succ → J, map_map → y0, getElem?_eq_getElem → y4, getElem_mem → y6, getElem?_eq_some_iff → y9, mem_of_getElem? → yj, length_append → yl, mem_append → yt, getElem_of_mem → yB
open Int renaming toNat_lt → y3
namespace Go.Proofs.YtbnlmgncbgaepaaGreat
open Go
section
variable (s:SG) (hs:s.fine) (hv:valid s.types=0) {i:Int} (h0:0<=i) (h1:i<s.types.length)
include s hs hv i h0 h1
theorem dW:gA 214 [.agg (WA s),.int .i64 i] (.int .i64 0):=by
 have h:=WX s hs;rw [hv] at h;refine wA (c:=bH) rfl rfl ?_;simp only [gA,WA] at h ⊢;have c1:¬ i<0:=by omega
 have c2:¬ (s.types.length:Int)<=i:=by omega
 simp [bH,-V,-y3,-y0,J,h,c1,c2]
theorem r10_ev:gA 120 [.agg (WA s),.int .i64 i] (.int .i64 0):=by
 have h:=PT s hs;rw [hv] at h;refine wA (c:=UK) rfl rfl ?_;simp only [gA,WA] at h ⊢;have c1:¬ i<0:=by omega
 have c2:¬ (s.types.length:Int)<=i:=by omega
 simp [UK,-V,-y3,-y0,J,h,c1,c2]
end
section
variable (w r:SG) (hw:w.fine) (hr:r.fine) (vw:valid w.types=0) (vr:valid r.types=0) {i k:Int} (hi:0<=i/\i<w.types.length) (hk:0<=k/\k<r.types.length) {v:Vl} (ra:v.ok) (pd:v.i64) (hp:KH w.types i v=true)
include w r hw hr vw vr i k hi hk v ra pd hp
theorem mcheck_ev :
  gA 194 [.agg (WA w),.int .i64 i,.agg (zA v),.agg (WA r),.int .i64 k] (.int .i64 0):=by
 have h1:=dW w hw vw hi.1 hi.2;have h2:=dW r hr vr hk.1 hk.2;have h3:=plain_v w.nl w.types (mO hw vw) i v ra pd;rw [hp] at h3;refine wA (c:=dI) rfl rfl ?_;simp only [gA,WA,sE,iA] at h1 h2 h3 ⊢;simp [dI,-V,-y3,-y0,J,h1,h2,h3]
theorem j5 :
  gA 74 [.agg (WA w),.int .i64 i,.agg (zA v),.agg (WA r),.int .i64 k] (.int .i64 0):=by
 have h1:=r10_ev w hw vw hi.1 hi.2;have h2:=r10_ev r hr vr hk.1 hk.2;have h3:=I5 w.nl w.types (mO hw vw) i v ra pd;rw [hp] at h3;refine wA (c:=IK) rfl rfl ?_;simp only [gA,WA,sE,iA] at h1 h2 h3 ⊢;simp [IK,-V,-y3,-y0,J,h1,h2,h3]
end
theorem vequal_ev:∀ (n:Nat) (v w:Vl),SizeOf.sizeOf v<n->v.ok->gA 156 [.agg (zA v),.agg (zA w)] (.bool (v.same w)):=by
 intro n
 induction n with
 | zero=>intro v w h; omega
 | succ n ih =>
  intro v w hn hv;rw [Vl.ok_def] at hv;obtain ⟨o1,o2,o3,o4,o5,o6⟩:=hv;have hr:=raws_ev v.rest w.rest o3 v.rn w.rn;have zj:=DZ 156 v.keys w.keys o1 (fun x hx y _=>ih x y (by have:=Vl.keys_lt v x hx; omega) (o5 x hx)) v.kn w.kn;have be:=DZ 156 v.items w.items o2 (fun x hx y _=>ih x y (by have:=Vl.items_lt v x hx; omega) (o6 x hx)) v.xn w.xn;simp only [gA] at hr zj be;refine wA (c:=tD) rfl rfl ?_;rw [iA,iA,Vl.same_def];by_cases h1:v.kind=w.kind
  ·by_cases h2:v.b=w.b
   ·by_cases h3:v.i=w.i
    ·by_cases h4:v.s=w.s
     ·by_cases h5:v.id=w.id
      ·by_cases h6:v.rest=w.rest
       ·cases h7:Vl.sames v.keys w.keys with
        | true=>rw [h7] at zj; simp [tD,-V,-y3,-y0,J,h1,h2,h3,h4,h5,h6 ▸ hr,h6,qG,OD,zj,be,h7]
        | false=>rw [h7] at zj; simp [tD,-V,-y3,-y0,J,h1,h2,h3,h4,h5,h6 ▸ hr,h6,qG,OD,zj,h7]
       ·simp [tD,-V,-y3,-y0,J,h1,h2,h3,h4,h5,hr,h6]
      ·simp [tD,-V,-y3,-y0,J,h1,h2,h3,h4,h5]
     ·simp [tD,-V,-y3,-y0,J,h1,h2,h3,h4]
    ·simp [tD,-V,-y3,-y0,J,h1,h2,h3]
   ·simp [tD,-V,-y3,-y0,J,h1,h2]
  ·simp [tD,-V,-y3,-y0,J,h1]
theorem G7 (v w:Vl) (hv:v.ok):gA 191 [.agg (zA v),.agg (zA w)] (.bool (v.same w)):=by
 have h:=fX _ v w (Nat.lt_succ_self _) hv;refine wA (c:=EK) rfl rfl ?_;simp only [gA,iA] at h ⊢;simp [EK,-V,-y3,-y0,J,h]
section
variable (w r:SG) (hw:w.fine) (hr:r.fine) (vw:valid w.types=0) (vr:valid r.types=0) {x y:fA} {i k:Int} (hi:0<=i) (gx:w.types[i.toNat]?=some x) (hk:0<=k) (gy:r.types[k.toNat]?=some y) (gn:x.kind≠5/\x.kind≠6) (vk:Int) (vb:Bool) (vi:Int) (vs:ByteArray) (vd:Int) (ra:(Vl.of vk vb vi vs vd).ok) (pd:(Vl.of vk vb vi vs vd).i64) (hp:KH w.types i (.of vk vb vi vs vd)=true) (gl:y.syms.length<=8796093022206) (dd:y.kind=7\/y.kind=8->0<=y.max)
include w r hw hr vw vr x y i k hi gx hk gy gn vk vb vi vs vd ra pd hp gl dd
theorem U7 :
  gA 155 [.agg (WA w),.int .i64 i,.agg (zA (.of vk vb vi vs vd)),.agg (WA r),.int .i64 k] (.tup [.agg (zA (IM (FN x y (.of vk vb vi vs vd)) (.of vk vb vi vs vd))),.int .i64 (if FN x y (.of vk vb vi vs vd)=true then 0 else 12)]):=by
 have li:=(y9.1 gx).1;have lk:=(y9.1 gy).1;have h1:=mcheck_ev w r hw hr vw vr ⟨hi,by omega⟩ ⟨hk,by omega⟩ ra pd hp;have h2:=pread_ev w r hi gx hk gy gl dd gn vk vb vi vs vd;refine wA (c:=dF) rfl rfl ?_;simp only [gA,WA,KA,sP] at h1 h2 ⊢;cases hb:FN x y (.of vk vb vi vs vd) with
 | true =>
  rw [hb] at h2;simp only [IM,if_true,KA] at h2;simp [dF,-V,-y3,-y0,J,zC,tF,bD,UG,KB,DL,JI,h1,h2,IM,KA]
 | false =>
  rw [hb] at h2;simp [IM,KA] at h2;simp [dF,-V,-y3,-y0,J,zC,tF,bD,UG,KB,DL,JI,h1,h2,IM,KA]
theorem P5 :
  gA 23 [.agg (WA w),.int .i64 i,.agg (zA (.of vk vb vi vs vd)),.agg (WA r),.int .i64 k] (.tup [.agg (zA (IM (FN x y (.of vk vb vi vs vd)) (.of vk vb vi vs vd))),.int .i64 (if FN x y (.of vk vb vi vs vd)=true then 0 else 12)]):=by
 have li:=(y9.1 gx).1;have lk:=(y9.1 gy).1;have h1:=j5 w r hw hr vw vr ⟨hi,by omega⟩ ⟨hk,by omega⟩ ra pd hp;have h2:=rread_ev w r hi gx hk gy gl dd gn vk vb vi vs vd;refine wA (c:=mG) rfl rfl ?_;simp only [gA,WA,KA] at h1 h2 ⊢;cases hb:FN x y (.of vk vb vi vs vd) with
 | true =>
  rw [hb] at h2;simp [IM,KA] at h2;simp [mG,-V,-y3,-y0,J,h1,h2,IM,KA]
 | false =>
  rw [hb] at h2;simp [IM,KA] at h2;simp [mG,-V,-y3,-y0,J,h1,h2,IM,KA]
theorem rmeans_ev (u:Vl) :
  gA 157 [.agg (WA w),.int .i64 i,.agg (zA (.of vk vb vi vs vd)),.agg (WA r),.int .i64 k,.agg (zA u)] (.bool (FN x y (.of vk vb vi vs vd)&&(Vl.of vk vb vi vs vd).same u)):=by
 have h1:=P5 w r hw hr vw vr hi gx hk gy gn vk vb vi vs vd ra pd hp gl dd;have h2:=G7 (.of vk vb vi vs vd) u ra;refine wA (c:=MH) rfl rfl ?_;cases hb:FN x y (.of vk vb vi vs vd) with
 | true =>
  rw [hb] at h1;simp only [gA,WA,KA,IM,if_true] at h1 h2 ⊢;rw [iA u] at h2 ⊢;simp [MH,-V,-y3,-y0,J,h1,h2]
 | false =>
  rw [hb] at h1;simp [IM,KA,WA] at h1 ⊢;rw [iA u];simp [MH,-V,-y3,-y0,J,h1]
end
def IH (S:List fA) (z:Int):fA:=(S[z.toNat]?).getD CB
theorem sL {S:List fA} {z:Int} (h0:0<=z) (h1:z<S.length):S[z.toNat]?=some (IH S z):=by
 unfold IH;rw [y4 (show z.toNat<S.length by omega)];rfl
theorem bM {S:List fA} {z:Int} (h0:0<=z) (h1:z<S.length):IH S z∈S:=yj (sL h0 h1)
theorem QY {S:List fA}:∀ n i,AD S n i=none->∀ j t,i<=j->j<i + n->S[j]?=some t->rI S t=none
 | 0,i,_,j,t,h1,h2,_=>by omega
 | n + 1,i,h,j,t,h1,h2,ht=>by
  rw [AD] at h;cases hi:S[i]? with
  | none =>
   have e1:=List.getElem?_eq_none_iff.1 hi;have e2:=(y9.1 ht).1;omega
  | some u =>
   rw [hi] at h;simp only at h;cases hd:rI S u with
   | some d=>rw [hd] at h; cases h
   | none =>
    rw [hd] at h;by_cases e:i=j
    ·subst e;rw [hi] at ht;injection ht with ht;rw [<- ht];exact hd
    ·exact QY n (i + 1) h j t (by omega) (by omega) ht
theorem G3 {S:List fA} (h:xE S=0) {x:fA} (hx:x∈S) {m:BB} (hm:m∈x.mems) (hh:m.has=true):KH S m.ty m.dflt=true:=by
 have hv:=BL h;unfold xE at h;rw [if_pos hv] at h;cases hd:AD S S.length 0 with
 | some p=>rw [hd] at h; cases h
 | none =>
  obtain ⟨j,hj,rfl⟩:=yB hx;have:=QY _ _ hd j _ (Nat.zero_le j) (by omega) (y4 hj);unfold rI at this;rw [Option.map_eq_none_iff,List.find?_eq_none] at this;have hb:=this m hm;unfold iM at hb;rw [hh] at hb;simpa using hb
structure d6 (S:List fA):Prop where
 fine:(⟨false,S⟩:SG).fine
 d64:(⟨false,S⟩:SG).d64
 err:xE S=0
 sm:∀ x∈S,x.sm
 hol:∀ x∈S,∀ m∈x.mems,∃ k b i s d,m.dflt=.of k b i s d
 k56:∀ x∈S,∀ m∈x.mems,m.has=true->∀ y,S[m.ty.toNat]?=some y->y.kind≠5/\y.kind≠6
theorem bR {l:List dC} (hl:oks l):d6 (uA l):=by
 obtain ⟨hf,h6⟩:=rwS_ok hl (zM l);have hx:∀ x∈uA l,∃ j,j<l.length/\x=nB l (j:Int):=fun x hx=>by
  obtain ⟨j,hj,rfl⟩:=yB hx;exact ⟨j,by simpa [uA] using hj,by simp [uA]⟩
 refine ⟨hf,h6,rwS_err hl (zM l),fun x hm=>?_,fun x hm m zt=>?_,fun x hm=>?_⟩
 ·obtain ⟨j,hj,rfl⟩:=hx x hm;intro hk;have ra:=PF hl hj;obtain ⟨xk,xa,xb,xc,_⟩:=l6 _ ra;unfold nB at hk ⊢;generalize HA l (j:Int)=x at *
  simp only at hk ⊢;split at hk
  all_goals first | (simp [fA.of] at hk; done) | skip
  ·simp only [fA.of,dC.low,dC.high];omega
  all_goals split at hk <;> simp [fA.of] at hk
 ·obtain ⟨j,hj,rfl⟩:=hx x hm;obtain ⟨rc,id,p,_,_,rfl⟩:=QX hl hj zt;simp only [JL];split
  ·unfold LJ;split
   ·exact ⟨_,_,_,_,_,rfl⟩
   ·exact ⟨_,_,_,_,_,rfl⟩
  ·exact ⟨0,false,0,⟨#[]⟩,0,rfl⟩
 ·obtain ⟨j,hj,he⟩:=yB hm;rw [<- he];exact dflt_kind hl (zM l) j hj
theorem d6.val {S:List fA} (h:d6 S):valid S=0:=BL h.err
theorem d6.gd {S:List fA} (h:d6 S) {x:fA} (hx:x∈S):TyGd S x:=by
 have hf:=(h.fine.2 x hx).2;refine ⟨hf.1,hf.2,fun hk=>?_⟩;obtain ⟨j,hj,rfl⟩:=yB hx;have hW:=TD h.val _ (y6 hj);have bc:=hW.key hk;have wh:=MF h.val j hj;have hg:=(aH wh).1;refine ⟨bc.1,JV hg hk,IH S S[j].key,sL bc.1 bc.2,?_⟩;have hka:SI S S[j].key=(IH S S[j].key).kind:=by unfold SI; rw [sL bc.1 bc.2]
 have h14:1<=SI S S[j].key/\SI S S[j].key<=4:=by
  unfold XC at wh;by_cases c:S[j].kind=8/\¬ (1<=SI S S[j].key/\SI S S[j].key<=4)
  ·rw [if_pos c] at wh;split at wh
   ·cases wh
   ·split at wh
    ·cases wh
    ·split at wh <;> cases wh
  ·exact Decidable.byContradiction fun h=>c ⟨hk,h⟩
 rw [hka] at h14;exact ⟨h14.1,h14.2,h.sm _ (bM bc.1 bc.2)⟩
theorem good_max0 {x:fA} (h:bB x=true) (hk:x.kind=7\/x.kind=8):0<=x.max:=by
 unfold bB PH at h;rcases hk with hk | hk <;> simp [hk] at h <;> omega
def mnsP (W R:List fA) (f g:BB):Bool:=FN (IH W f.ty) (IH R g.ty) f.dflt&&f.dflt.same g.dflt
theorem means2 {W R:List fA} (hw:d6 W) (hr:d6 R) {x y:fA} (hx:x∈W) (hy:y∈R):aV ⟨false,W⟩ ⟨false,R⟩ (mnsP W R) x.mems y.mems:=by
 intro f hf g hg uj af;have wx:=(TD hw.val x hx).mems f hf;have wy:=(TD hr.val y hy).mems g hg;have gx:=sL wx.1 wx.2;have gy:=sL wy.1 wy.2;have gn:=hw.k56 x hx f hf uj _ gx;have hp:=G3 hw.err hx hf uj;have ra:=((hw.fine.2 x hx).1.2.2 f hf).1;have pd:=hw.d64 x hx f hf;have gl:=(hr.fine.2 _ (bM wy.1 wy.2)).2.1;have dd:(IH R g.ty).kind=7\/(IH R g.ty).kind=8->0<=(IH R g.ty).max:=fun hk=>by
  obtain ⟨j,hj,he⟩:=yB (bM wy.1 wy.2);rw [<- he] at hk ⊢;exact good_max0 (aH (MF hr.val j hj)).1 hk
 obtain ⟨vk,vb,vi,vs,vd,hd⟩:=hw.hol x hx f hf;unfold mnsP;rw [hd] at hp ra pd ⊢;have h1:=U7 ⟨false,W⟩ ⟨false,R⟩ hw.fine hr.fine hw.val hr.val wx.1 gx wy.1 gy gn vk vb vi vs vd ra pd hp gl dd;have h2:=rmeans_ev ⟨false,W⟩ ⟨false,R⟩ hw.fine hr.fine hw.val hr.val wx.1 gx wy.1 gy gn vk vb vi vs vd ra pd hp gl dd g.dflt;refine ⟨⟨_,_,h1,?_,?_⟩,h2⟩
 ·intro he;cases hb:FN (IH W f.ty) (IH R g.ty) (.of vk vb vi vs vd) with
  | false=>rw [hb] at he; simp at he
  | true=>exact vequal_ev _ _ _ (Nat.lt_succ_self _) ra
 ·intro he;cases hb:FN (IH W f.ty) (IH R g.ty) (.of vk vb vi vs vd) with
  | true=>rw [hb] at he; simp at he
  | false=>rfl
def UO (W R:List fA) (p:Pr):List Pr:=jM (IH W p.1) (IH R p.2)
noncomputable def rsP (W R:List fA) (p:Pr):Int:=F7 (mnsP W R) W (IH W p.1) (IH R p.2)
theorem d6.few {S:List fA} (h:d6 S) {x:fA} (hx:x∈S):x.mems.length<=16:=(TD h.val x hx).few
theorem simF {W R:List fA} (hw:d6 W) (hr:d6 R):IQ ⟨false,W⟩ ⟨false,R⟩ (UO W R) (rsP W R):=by
 have all:∀ p,rN W.length R.length p->W[p.1.toNat]?=some (IH W p.1)/\R[p.2.toNat]?=some (IH R p.2)/\IH W p.1∈W/\IH R p.2∈R:=fun p ⟨h1,h2,h3,h4⟩=>⟨sL h1 h2,sL h3 h4,bM h1 h2,bM h3 h4⟩
 refine ⟨fun p hp=>?_,fun p hp=>?_,fun p hp=>?_,fun p hp=>?_,fun p hp q hq=>?_,fun p hp=>?_,NI hw.val,NI hr.val⟩
 ·obtain ⟨g1,g2,m1,m2⟩:=all p hp;exact tY ⟨false,W⟩ ⟨false,R⟩ hp.1 g1 hp.2.2.1 g2 (by have:=hw.few m1; omega) (by have:=hr.few m2; omega)
 ·obtain ⟨g1,g2,m1,m2⟩:=all p hp;exact next_ev ⟨false,W⟩ ⟨false,R⟩ hp.1 g1 hp.2.2.1 g2 (by have:=hw.few m1; omega) (by have:=hr.few m2; omega)
 ·obtain ⟨g1,g2,m1,m2⟩:=all p hp;exact reason_ev ⟨false,W⟩ ⟨false,R⟩ hp.1 g1 hp.2.2.1 g2 (hw.gd m1) (hr.gd m2) (means2 hw hr m1 m2)
 ·obtain ⟨g1,g2,m1,m2⟩:=all p hp;exact S7 ⟨false,W⟩ ⟨false,R⟩ hp.1 g1 hp.2.2.1 g2 (hw.gd m1) (hr.gd m2) (means2 hw hr m1 m2)
 ·obtain ⟨g1,g2,m1,m2⟩:=all p hp;have wx:=TD hw.val _ m1;have wy:=TD hr.val _ m2;simp only [UO,jM] at hq;split at hq
  case isFalse=>cases hq
  rename_i hk;rw [CL] at hq;rcases hq with hq | hq
  ·cases hq
  rw [yt,yt] at hq;rcases hq with (hq | hq) | hq
  ·unfold wN at hq;rw [List.mem_flatMap] at hq;obtain ⟨f,hf,hq⟩:=hq;unfold TX at hq;split at hq
   ·split at hq
    ·rename_i g hg;simp at hq;subst hq;have a:=wx.mems f hf;have b:=wy.mems g (yj hg);exact ⟨a.1,a.2,b.1,b.2⟩
    ·cases hq
   ·cases hq
  ·unfold PX at hq;split at hq
   ·rename_i h8;simp at hq;subst hq;have a:=wx.key h8.1;have b:=wy.key (by rw [<- hk]; exact h8.1);exact ⟨a.1,a.2,b.1,b.2⟩
   ·cases hq
  ·unfold mQ at hq;split at hq
   ·rename_i h8;simp at hq;subst hq;have a:=wx.elem (by omega);have b:=wy.elem (by rw [<- hk]; omega);exact ⟨a.1,a.2,b.1,b.2⟩
   ·cases hq
 ·obtain ⟨_,_,m1,_⟩:=all p hp;have h1:=hw.few m1;unfold UO jM;split
  ·have h2:=wJ (wN (IH W p.1).mems (IH R p.2).mems++PX (IH W p.1) (IH R p.2)++mQ (IH W p.1) (IH R p.2)) [];have h3:=BO (IH R p.2).mems (IH W p.1).mems;have h4:(PX (IH W p.1) (IH R p.2)).length<=1:=by unfold PX; split <;> simp
   have h5:(mQ (IH W p.1) (IH R p.2)).length<=1:=by unfold mQ; split <;> simp
   simp only [yl,List.length_nil] at h2;omega
  ·simp
end Go.Proofs.YtbnlmgncbgaepaaGreat
