/- Part of the proof: the machine, the code of functions, and what it computes. -/
import Derived.Test.YtbnlmgncbgaepaaGreatVc
import Derived.ProofKit
import Derived.JoinedCond
set_option linter.unusedSimpArgs false
set_option linter.unusedVariables false
set_option linter.unusedSectionVars false
set_option maxRecDepth 100000
set_option maxHeartbeats 8000000
open Option renaming bind_some → y0
open List renaming map_map → y3, all_eq_true → y5, range_succ → y6, mem_cons → yu
open Int renaming toNat_lt → y7
open Bool renaming and_eq_true → y8
open Nat renaming le_trans → ye, lt_of_lt_of_le → yw
namespace Go.Proofs.YtbnlmgncbgaepaaGreat
open Go
section
def rvBeq:RV->RV->Bool
 | (a,S),(b,S')=>AV.beq a b&&AV.beqO S S'
theorem rvBeq_eq {x y:RV} (h:rvBeq x y=true):x=y:=by
 obtain ⟨a,S⟩:=x;obtain ⟨b,S'⟩:=y;simp only [rvBeq,y8] at h;rw [AV.beq_eq _ _ h.1,AV.beqO_eq _ _ h.2]
def pickB (f:Nat->Option RV) (z:Option RV):List Nat->Option RV
 | []=>z
 | [i]=>f i
 | i :: j :: r=>match f i with
  | none=>none
  | some v=>if (j :: r).all (fun x=>match f x with | some y=>rvBeq y v | none=>false) then some v else none
theorem pickB_some {f:Nat->Option RV} {z:Option RV} {r:RV}:∀ (l:List Nat),pickB f z l=some r->(l=[]->z=some r)/\∀ i∈l,f i=some r
 | [],h=>⟨fun _=>h,fun i hi=>absurd hi (by simp)⟩
 | [a],h=>⟨fun e=>(by cases e),fun i hi=>(by rw [List.mem_singleton.1 hi]; exact h)⟩
 | a :: b :: l,h=>by
  refine ⟨fun e=>(by cases e),fun i hi=>?_⟩;simp only [pickB] at h;split at h
  ·cases h
  ·rename_i v hv;split at h
   ·rename_i ha;injection h with h;subst h;rcases yu.1 hi with rfl | hi
    ·exact hv
    ·have:=y5.1 ha i hi;split at this
     ·rename_i y hy;rw [hy,rvBeq_eq this]
     ·cases this
   ·cases h
def nstepB (d:Option Nat) (x:Opd) (s:MSt) (k:MSt->Option RV):Option RV:=match x.get s with
 | .ptr t n 0=>match (s.obj t n).bind itOf with
  | some (tm,nm,N,seen)=>match (s.obj tm nm).bind q2T with
   | some L=>if L.length=N then pickB (fun i=>match L[i]? with
     | some [y,v]=>if y.flat&&v.flat then k ((s.setObj t n (itAV tm nm N (seen++[i]))).put d ⟨.tup [.bool true,y,v],.no⟩) else none
     | _=>none) (k (s.put d ⟨.tup [.bool false],.no⟩)) ((List.range N).filter fun i=>!seen.contains i) else none
   | none=>none
  | none=>none
 | _=>none
theorem nstepB_le {d:Option Nat} {x:Opd} {s:MSt} {k:MSt->Option RV} {r:RV} (h:nstepB d x s k=some r):nstep d x s k=some r:=by
 unfold nstepB at h;unfold nstep;split at h
 ·rename_i t n hx;simp only [hx];split at h
  ·rename_i tm nm N seen hi;simp only [hi];split at h
   ·rename_i L hL;simp only [hL];split at h
    ·rename_i hN;simp only [hN,if_true];obtain ⟨h1,h2⟩:=pickB_some _ h;exact q61 _ h1 h2
    ·cases h
   ·cases h
  ·cases h
 ·cases h
def stepB (call:q09) (o:OpC) (s:MSt) (k:MSt->Option RV):Option RV:=match o.op with
 | .callh ..=>none
 | .nxt x=>q2w s o.dst o.guard (nstepB o.dst x s k) k
 | _=>(o.step call s).bind k
def opsB (call:q09):List OpC->MSt->(MSt->Option RV)->Option RV
 | [],s,k=>k s
 | o :: r,s,k=>stepB call o s fun s=>opsB call r s k
def runB (call:q09) (lp:LpT):C->MSt->(Ex->MSt->Option RV)->Option RV
 | .skip,s,k=>k .nrm s
 | .seq a b,s,k=>runB call lp a s fun e s=>match e with
  | .nrm=>runB call lp b s k
  | e=>k e s
 | .reg ops,s,k=>opsB call ops s fun s=>k .nrm { s with next:=s.next + 1 }
 | .cond c t e,s,k=>match c.get s with
  | .bool b=>if b then runB call lp t s k else runB call lp e s k
  | _=>none
 | .block id b,s,k=>runB call lp b s fun e s=>match e with
  | .exit j=>if j=id then k .nrm s else k (.exit j) s
  | e=>k e s
 | .loop b,s,k=>lp b s k
 | .exit id,s,k=>k (.exit id) s
 | .ret,s,k=>k .ret s
theorem stepB_le {call:q09} {lh:LH} {o:OpC} {s:MSt} {k:MSt->Option RV} {r:RV} (h:stepB call o s k=some r):o.stepK call lh s k=some r:=by
 obtain ⟨d,op,g⟩:=o;by_cases hop:isH op=true
 ·cases op with
  | callh nt x xs=>cases h
  | nxt x =>
   simp only [stepB,q2w] at h;simp only [OpC.stepK,q2w];cases g with
   | none=>exact nstepB_le h
   | some p =>
    obtain ⟨t,want⟩:=p;simp only at h ⊢;cases hv:(s.env t).v with
    | bool b =>
     rw [hv] at h;simp only at h ⊢;by_cases hb:b=want
     ·rw [if_pos hb] at h;simp only [if_pos hb];exact nstepB_le h
     ·rw [if_neg hb] at h;simp only [if_neg hb];exact h
    | tup l=>rw [hv] at h; cases l with
     | nil=>exact h
     | cons=>cases h
    | _=>rw [hv] at h; cases h
  | _=>cases hop
 ·have hop:isH op=false:=by simpa using hop
  rw [q1b hop];cases op <;> first | exact h | cases hop
theorem opsB_late {callA:q09} {callB:Nat->q09} {lhB:Nat->LH} (hc:∀ f args S r,callA f args S=some r->Late fun m=>callB m f args S=some r):∀ (ops:List OpC) {s:MSt} {k:MSt->Option RV} {r:RV} {km:Nat->MSt->Option RV},(∀ s' r',k s'=some r'->Late fun m=>km m s'=some r')->opsB callA ops s k=some r->Late fun m=>q1q (callB m) (lhB m) ops s (km m)=some r
 | [],s,k,r,km,hk,h=>hk _ _ h
 | o :: l,s,k,r,km,hk,h=>stepK_late (lhA:=⟨fun _ _ _=>none,fun _ _ _ _=>none⟩) hc (fun f xs s k r km _ h=>by cases h) o (km:=fun m s=>q1q (callB m) (lhB m) l s (km m)) (fun s' r' h'=>opsB_late hc l hk h') (stepB_le h)
theorem q2f {callA:q09} {lpA:LpT} {callB:Nat->q09} {lpB:Nat->LH} (hc:∀ f args S r,callA f args S=some r->Late fun m=>callB m f args S=some r)
  (hl:∀ b s k r (km:Nat->Ex->MSt->Option RV),(∀ e s' r',k e s'=some r'->Late fun m=>km m e s'=some r')->lpA b s k=some r->Late fun m=>lpB m b s (km m)=some r) :
  ∀ (c:C) (s:MSt) (k:Ex->MSt->Option RV) (r:RV) (km:Nat->Ex->MSt->Option RV),(∀ e s' r',k e s'=some r'->Late fun m=>km m e s'=some r')->runB callA lpA c s k=some r->Late fun m=>c.run (callB m) (lpB m) s (km m)=some r
 | .skip,s,k,r,km,hk,h=>hk _ _ _ h
 | .exit id,s,k,r,km,hk,h=>hk _ _ _ h
 | .ret,s,k,r,km,hk,h=>hk _ _ _ h
 | .seq a b,s,k,r,km,hk,h=>by
  refine q2f hc hl a s _ r (fun m e s'=>match e with | .nrm=>b.run (callB m) (lpB m) s' (km m) | e=>km m e s') (fun e s' r' h'=>?_) h;cases e with
  | nrm=>exact q2f hc hl b s' k r' km hk h'
  | exit id=>exact hk _ _ _ h'
  | ret=>exact hk _ _ _ h'
 | .reg ops,s,k,r,km,hk,h=>by
  simp only [runB] at h;simp only [C.run];exact opsB_late hc ops (km:=fun m s=>km m .nrm { s with next:=s.next + 1 }) (fun s' r' h'=>hk _ _ _ h') h
 | .cond x t e,s,k,r,km,hk,h=>by
  simp only [runB] at h;simp only [C.run];cases hv:x.get s with
  | bool b =>
   rw [hv] at h;cases b with
   | true=>exact q2f hc hl t s k r km hk (by simpa using h)
   | false=>exact q2f hc hl e s k r km hk (by simpa using h)
  | _=>rw [hv] at h; cases h
 | .block id b,s,k,r,km,hk,h=>by
  refine q2f hc hl b s _ r (fun m e s'=>match e with | .exit j=>if j=id then km m .nrm s' else km m (.exit j) s' | e=>km m e s') (fun e s' r' h'=>?_) h;cases e with
  | nrm=>exact hk _ _ _ h'
  | ret=>exact hk _ _ _ h'
  | exit j =>
   simp only at h' ⊢;by_cases e:j=id
   ·rw [if_pos e] at h'; simp only [if_pos e]; exact hk _ _ _ h'
   ·rw [if_neg e] at h'; simp only [if_neg e]; exact hk _ _ _ h'
 | .loop b,s,k,r,km,hk,h=>hl b s k r km hk h
def lpB (call:q09):Nat->LpT
 | 0,_,_,_=>none
 | n + 1,b,s,k=>runB call (lpB call n) b s (again (lpB call n) b k)
variable {T:Nat->Option FnC} {ext:q09} {M:List ME}
theorem lpB_late (hM:q03 T ext M):∀ n b s k r (km:Nat->Ex->MSt->Option RV),(∀ e s' r',k e s'=some r'->Late fun m=>km m e s'=some r')->lpB (look M) n b s k=some r->Late fun m=>lpN T ext m b s (km m)=some r
 | 0,b,s,k,r,km,hk,h=>by cases h
 | n + 1,b,s,k,r,km,hk,h=>by
  unfold lpB at h;refine Late.pred ((q2f (lpB:=fun m=>⟨lpN T ext m,hpN T ext m⟩) (fun f args S r hl=>q6S f args S _ (hM f args S _ hl)) (lpB_late hM n) b s _ r (fun m=>again (lpN T ext m) b (km (m + 1))) (fun e s' r' h'=>?_) h).imp fun m hm=>?_)
  ·cases e with
   | nrm=>exact lpB_late hM n b s' k r' (fun m=>km (m + 1)) (fun e s'' r'' h''=>(hk e s'' r'' h'').succ) h'
   | exit id=>exact (hk _ _ _ h').succ
   | ret=>exact (hk _ _ _ h').succ
  ·unfold lpN;exact hm
theorem q03.every (hM:q03 T ext M) {f:Nat} {c:FnC} (hT:T f=some c) {args:List AV} (ha:args.length=c.np) (hm:q3s args=false) (hr:markR args=none) {r:RV} (N:Nat) (h:runB (look M) (lpB (look M) N) c.code (MSt.init args none) (fin c none)=some r):evC T ext f args none=some r:=by
 obtain ⟨m,hm⟩:=(Late.pred (p:=fun m=>q16 T ext m f args none=some r) ((q2f (lpB:=fun m=>⟨lpN T ext m,hpN T ext m⟩) (km:=fun _=>fin c none) (fun f args S r hl=>q6S f args S _ (hM f args S _ hl)) (lpB_late hM N) c.code _ _ r (fun e s' r' h'=>Late.now h') h).imp fun m hm'=>by
  unfold q16;rw [hT];simp only [hr];rw [if_pos ⟨ha,hm,rfl⟩];exact hm')).some
 exact q1X.2 ⟨m,hm⟩
end
def q4H:C:=oR [oB 101 .lss 100 99] (.seq (.cond (.t 101) .skip (.exit 10)) (.seq (.block 11 (oR [oI 102 1 98 100,oL 103 102,oM 20 103] (.reg [oM 104 7,oF 105 1 16,oL 106 105,oM 107 20,oS 108 (.build zza [(0,(1,(.t 106))),(1,(1,(.t 107)))]),oN (.mset (.agg [.none,(.some .i64)]) (.t 104) (.t 108) (.c (.bool true)))]))) (.reg [oC 109 .add 100 1,oM 100 109])))
def q4I:C:=.seq (.reg [oS 80 (.nxt (.t 79)),oX 81 80 0]) (.seq (.cond (.t 81) .skip (.exit 8)) (.block 9 (.seq (.reg [oS 82 (.ent (.t 79)),oX 83 82 0,oY 18 zza,oV 2 18 83]) (.seq (.reg [oF 84 0 18,oL 85 84,oF 86 1 16,oL 87 86,oB 88 .eql 85 87,oM 89 88,oG 90 (.mv (.t 17)) 89 true,oG 91 (.faddr 1 (.t 18)) 89 true,oP 92 91 89 true,oG 93 (.call .any 106 [(.t 90),(.t 92)]) 89 true,oG 94 (.un .not (.t 93)) 89 true,oS 95 (.pick (.t 89) (.t 94) (.c (.bool false)))]) (.cond (.t 95) (.reg [oM 96 8,oA 97 2 18,oN (.mset (.agg [.none,(.some .i64)]) (.t 96) (.t 97) (.c (.bool true)))]) .skip)))))
def q4J:C:=oR [oB 70 .lss 69 68] (.seq (.cond (.t 70) .skip (.exit 6)) (.seq (.block 7 (oR [oI 71 10 67 69,oA 72 10 71,oY 16 zzb,oV 10 16 72] (.seq (.seq (.reg [oF 73 1 16,oL 74 73,oS 75 (.bin .eql false (.t 74) (.c (.str (ByteArray.mk #[]))))]) (.cond (.t 75) (.exit 7) .skip)) (.seq (.reg [oA 76 10 16,oS 77 (.call .any 105 [(.t 76)]),oM 17 77]) (.seq (.seq (.reg [oM 78 7,oS 79 (.rng (.t 78))]) (.block 8 (.loop q4I))) (oR [oM 98 17,oH 99 98,oJ 100 0] (.block 10 (.loop q4H)))))))) (.reg [oC 110 .add 69 1,oM 69 110])))
def q4K:C:=oR [oB 50 .lss 49 48] (.seq (.cond (.t 50) .skip (.exit 4)) (.seq (.block 5 (oR [oI 51 1 47 49,oL 52 51,oM 14 52] (.seq (.reg [oM 53 8,oF 54 1 12,oL 55 54,oM 56 14,oS 57 (.build zza [(0,(1,(.t 55))),(1,(1,(.t 56)))]),oS 58 (.mget false (.agg [.none,(.some .i64)]) (.bool false) (.t 53) (.t 57))]) (.cond (.t 58) (oR [oM 59 9,oF 60 1 12,oL 61 60,oM 62 14,oM 2 59,oM 3 61,oM 4 62,oJ 5 0] .ret) .skip)))) (.reg [oC 63 .add 49 1,oM 49 63])))
def q4L:C:=oR [oB 40 .lss 39 38] (.seq (.cond (.t 40) .skip (.exit 2)) (.seq (.block 3 (oR [oI 41 10 37 39,oA 42 10 41,oY 12 zzb,oV 10 12 42] (.seq (.seq (.reg [oF 43 1 12,oL 44 43,oS 45 (.bin .eql false (.t 44) (.c (.str (ByteArray.mk #[]))))]) (.cond (.t 45) (.exit 3) .skip)) (.seq (.reg [oA 46 10 12,oS 47 (.call .any 105 [(.t 46)]),oH 48 47,oJ 49 0]) (.block 4 (.loop q4K)))))) (.reg [oC 64 .add 39 1,oM 39 64])))
def q4M:C:=oR [oB 31 .lss 30 29] (.seq (.cond (.t 31) .skip (.exit 0)) (.seq (.block 1 (.seq (.reg [oM 32 30,oI 33 2 28 30,oA 34 2 33,oS 10 (.alloc [(.sl true []),(.int .i64 0)]),oM 9 32,oV 2 10 34]) (.seq (oR [oF 35 0 10,oF 36 0 35,oL 37 36,oH 38 37,oJ 39 0] (.block 2 (.loop q4L))) (oR [oF 65 0 10,oF 66 0 65,oL 67 66,oH 68 67,oJ 69 0] (.block 6 (.loop q4J)))))) (.reg [oC 111 .add 30 1,oM 30 111])))
def q1L:FnC:=⟨(.seq (.reg [oJ 2 0,oS 3 (.mv (.c (.str (ByteArray.mk #[])))),oJ 4 0,oJ 5 0]) (.seq (.seq (.reg [oM 21 0,oS 22 (.call .any 103 [(.t 21)]),oM 6 22]) (oR [oM 23 6,oC 24 .neq 23 0] (.cond (.t 24) (.seq (.reg [oM 25 6,oJ 2 0,oS 3 (.mv (.c (.str (ByteArray.mk #[])))),oJ 4 0,oM 5 25]) .ret) .skip))) (.seq (.reg [oS 26 (.mkm),oS 27 (.mkm),oM 7 26,oM 8 27]) (.seq (oR [oM 28 0,oH 29 28,oJ 30 0] (.block 0 (.loop q4M))) (.seq (.reg [oJ 2 0,oS 3 (.mv (.c (.str (ByteArray.mk #[])))),oJ 4 0,oJ 5 15]) .ret))))),[(.tmp 2),(.tmp 3),(.tmp 4),(.tmp 5)],1,[]⟩ --@@ sheave/history.Reused
theorem q5P:FnOk Tryz.prog 48 q1L:=⟨fun xs w=>by kernel_rfl,_,Tryz.func48,by kernel_rfl⟩
def ruT:Nat->Option FnC:=fun f=>if f=48 then some q1L else none
theorem ruT_ok (f:Nat) (c:FnC) (h:ruT f=some c):FnOk Tryz.prog f c:=by
 unfold ruT at h;split at h
 ·rename_i e;injection h with h;subst h;subst e;exact q5P
 ·cases h
theorem mixedO:Tryz.prog.follows .mixedOrders=true:=by kernel_rfl
def ruArgs:List AV:=[(.sl false [[(.sl false [[(.int .i64 5),(.str (ByteArray.mk #[82])),(.int .i64 0),(.int .i64 0),(.int .i64 0),(.sl true []),(.sl false [[(.int .i64 1),(.str (ByteArray.mk #[120])),(.int .i64 1),(.bool false),(.bool true),(.int .i64 1),(.bool true),(.int .i64 0),(.str (ByteArray.mk #[])),(.int .i64 0),(.sl true []),(.sl true []),(.sl true [])]]),(.int .i64 0),(.int .i64 0),(.bool false)],[(.int .i64 1),(.str (ByteArray.mk #[])),(.int .i64 0),(.int .i64 0),(.int .i64 0),(.sl true []),(.sl true []),(.int .i64 0),(.int .i64 0),(.bool false)]]),(.int .i64 0)],[(.sl false [[(.int .i64 5),(.str (ByteArray.mk #[82])),(.int .i64 0),(.int .i64 0),(.int .i64 0),(.sl true []),(.sl true []),(.int .i64 0),(.int .i64 0),(.bool false)],[(.int .i64 1),(.str (ByteArray.mk #[])),(.int .i64 0),(.int .i64 0),(.int .i64 0),(.sl true []),(.sl true []),(.int .i64 0),(.int .i64 0),(.bool false)]]),(.int .i64 0)],[(.sl false [[(.int .i64 5),(.str (ByteArray.mk #[82])),(.int .i64 0),(.int .i64 0),(.int .i64 0),(.sl true []),(.sl false [[(.int .i64 1),(.str (ByteArray.mk #[120])),(.int .i64 1),(.bool false),(.bool true),(.int .i64 1),(.bool false),(.int .i64 0),(.str (ByteArray.mk #[])),(.int .i64 0),(.sl true []),(.sl true []),(.sl true [])]]),(.int .i64 0),(.int .i64 0),(.bool false)],[(.int .i64 1),(.str (ByteArray.mk #[])),(.int .i64 0),(.int .i64 0),(.int .i64 0),(.sl true []),(.sl true []),(.int .i64 0),(.int .i64 0),(.bool false)]]),(.int .i64 0)]])]
def ruV:AV:=(.tup [(.int .i64 2),(.str (ByteArray.mk #[82])),(.int .i64 1),(.int .i64 0)])
theorem no_reused {args:List AV} {S:Option AV}:q00 48 args S=none:=by simp [q00]
theorem no_reused' {args:List AV} {S:Option AV} {r:RV} (h:evC allT q00 48 args S=some r):False:=by
 obtain ⟨n,hn⟩:=q1X.1 h;have hT:allT 48=none:=by kernel_rfl
 cases n <;> (unfold q16 at hn; rw [hT] at hn; simp only at hn; rw [no_reused] at hn; cases hn)
theorem ru_knows:q03 ruT (evC allT q00) awkh_M84:=fun f args S r h=>by
 have h:=awkh_knows f args S r h;by_cases e:f=48
 ·subst e;exact (no_reused' h).elim
 ·have hT:ruT f=none:=by unfold ruT; rw [if_neg e]
  exact q1X.2 ⟨0,by unfold q16; rw [hT]; exact h⟩
theorem reused_ev:evC ruT (evC allT q00) 48 ruArgs none=some (ruV,none):=ru_knows.every (c:=q1L) rfl rfl rfl rfl 100 (by kernel_rfl)
theorem reused_ok {O:Objs}:q0n Tryz.prog O 48 ruArgs none (ruV,none):=q6T mixedO ruT_ok (fun _ _ _ _ h=>q6T mixedO allT_ok bldExt_ok h) reused_ev
def hisExt:q09:=fun f args S=>if Nat.beq f 48&&(AV.beqL args ruArgs&&AV.beqO S none) then some (ruV,none) else q00 f args S
theorem hisExt_ok {O:Objs} (f:Nat) (args:List AV) (S:Option AV) (r:RV) (h:hisExt f args S=some r):q0n Tryz.prog O f args S r:=by
 unfold hisExt at h;split at h
 ·rename_i hc;simp only [y8] at hc;obtain ⟨h1,h2,h3⟩:=hc;injection h with h;subst h;rw [Nat.eq_of_beq_eq_true h1,AV.beqL_eq _ _ h2,AV.beqO_eq _ _ h3];exact reused_ok
 ·exact bldExt_ok f args S r h
theorem his_mono (f:Nat) (args:List AV) (S:Option AV) (r:RV) (h:q00 f args S=some r):hisExt f args S=some r:=by
 unfold hisExt;split
 ·rename_i hc;simp only [y8] at hc;rw [Nat.eq_of_beq_eq_true hc.1,no_reused] at h;cases h
 ·exact h
abbrev evG (f:Nat) (args:List AV) (v:AV):Prop:=evC allT hisExt f args none=some (v,none)
theorem ev_G {f:Nat} {args:List AV} {v:AV} (h:evC allT q00 f args none=some (v,none)):evG f args v:=evC_mono his_mono h
theorem awake24_ev:evG 45 [] (.bool true):=q03.run (fun f args S r h=>evC_mono his_mono (awkh_knows f args S r h)) 3000 (by kernel_rfl)
def bigR (r:Bool × List Bool):Bool:=decide (10<r.2.length)
theorem setsF_ev (r:Bool × List Bool):evA 60 [.sl r.1 (r.2.map fun b=>[.bool b])] (.bool (bigR r)):=by
 refine q2b (c:=q0k) rfl rfl ?_;by_cases h:10<r.2.length
 ·have h':(10:Int)<r.2.length:=by omega
  simp [q0k,-y0,-y7,-y3,y6,bigR,h,h']
 ·have h':¬ (10:Int)<r.2.length:=by omega
  simp [q0k,-y0,-y7,-y3,y6,bigR,h,h']
theorem galF_ev (r:Bool × List Bool):evA 65 [.sl r.1 (r.2.map fun b=>[.bool b])] (.bool (bigR r)):=by
 refine q2b (c:=q0c) rfl rfl ?_;by_cases h:10<r.2.length
 ·have h':(10:Int)<r.2.length:=by omega
  simp [q0c,-y0,-y7,-y3,y6,bigR,h,h']
 ·have h':¬ (10:Int)<r.2.length:=by omega
  simp [q0c,-y0,-y7,-y3,y6,bigR,h,h']
theorem indexf_Row_ev (F:Nat) (l:Tbl) (p:Bool × List Bool->Bool) (hl:l.length<=9223372036854775807) (hF:∀ x∈l,evA F [.sl x.1 (x.2.map fun b=>[.bool b])] (.bool (p x))) (b:Bool):evA 110 [.sl b (l.map tbC),.fn F []] (.int .i64 (idxI p l)):=by
 refine q2b (c:=q0o) rfl rfl ?_;have hcap:∀ (s:MSt) (cl:Cl),q1F s cl []=some []:=fun _ _=>rfl
 simp [q0o,-y0,-y7,-y3,y6];refine q33 l.length (fun i s=>(s.env 0).v=.sl b (l.map tbC)/\(s.env 1).v=.fn F []/\(s.env 7).v=.int .i64 l.length/\(s.env 8).v=.int .i64 i/\idxI p l=(if idxI p (l.drop i)=-1 then -1 else idxI p (l.drop i) + i))
  (fun e s=>(e=.exit 0/\idxI p l=-1)\/(e=.ret/\(s.env 4).v=.int .i64 (idxI p l))) (fun i hi s k h ih hk=>?_) _ _ ?_ (fun e s h=>?_)
 ·obtain ⟨e0,e1,e7,e8,hs⟩:=h;refine q1p ?_;by_cases hlt:i<l.length
  ·have hlt':(i:Int)<l.length:=by omega
   have g1:(l.map tbC)[i]?=some (tbC l[i]):=by simp [hlt]
   have hw:=wrap1 (i:=i) (by omega);have hx:=hF l[i] (List.getElem_mem _);rw [List.drop_eq_getElem_cons hlt] at hs;generalize l[i]=x at *
   simp only [evA,tbC] at g1 hx;cases hp:p x with
   | true =>
    rw [hp] at hx;simp [q0f,-y0,-y7,-y3,y6,e0,e1,e7,e8,hlt',g1,hcap,hx];refine hk _ _ (.inr ⟨rfl,?_⟩);simp [hs,idxI,hp]
   | false =>
    rw [hp] at hx;simp [q0f,-y0,-y7,-y3,y6,e0,e1,e7,e8,hlt',g1,hcap,hx,hw];refine ih hlt _ ⟨?_,?_,?_,?_,?_⟩
    ·simp [e0]
    ·simp [e1]
    ·simp [e7]
    ·simp
    ·rw [hs,idxI_skip p x _ hp];have:=idxI_ge p (l.drop (i + 1));by_cases h1:idxI p (l.drop (i + 1))=-1
     ·simp [h1]
     ·have h2:¬ idxI p (l.drop (i + 1)) + 1=-1:=by omega
      rw [if_neg h1,if_neg h2,if_neg h1];omega
  ·have hlt':¬ (i:Int)<l.length:=by omega
   simp [q0f,-y0,-y7,-y3,y6,e7,e8,hlt'];rw [List.drop_eq_nil_of_le (by omega)] at hs;exact hk _ _ (.inl ⟨rfl,hs⟩)
 ·have:=idxI_ge p l;by_cases h1:idxI p l=-1 <;> simp [h1]
 ·rcases h with ⟨rfl,h1⟩ | ⟨rfl,h1⟩ <;> simp [-y0,-y7,-y3,y6,h1]
theorem q6j (F:Nat) (l:Tbl) (p:Bool × List Bool->Bool) (hl:l.length<=9223372036854775807) (hF:∀ x∈l,evA F [.sl x.1 (x.2.map fun b=>[.bool b])] (.bool (p x))) (b:Bool):evA 59 [.sl b (l.map tbC),.fn F []] (.bool (l.any p)):=by
 refine q2b (c:=q0e) rfl rfl ?_;have hi:=indexf_Row_ev F l p hl hF b;have ha:=idxI_any p l;rw [<- ha];simp only [evA] at hi;simp [q0e,-y0,-y7,-y3,y6,hi]
theorem sets_ev (nl:Bool) (l:Tbl) (hl:l.length<=9223372036854775807) {S:Nat} (hS:S<256):evG 15 [.sl nl (l.map tbC),.int .u8 S] (.bool true):=by
 refine evC_intro q0a rfl rfl ?_ (by rfl);have haw:=awake24_ev;have hc:=ev_G (q6j 60 l bigR hl (fun x _=>setsF_ev x) nl);simp only [evG] at haw hc;by_cases h:l.length<=10
 ·have h1:=ev_G (prd_ev nl l hS h);have h2:=ev_G (rrd_ev nl l hS h);have h3:=ev_G (pwr_ev nl l hS h);have h4:=ev_G (rwr_ev nl l hS h);have h':¬ (10:Int)<l.length:=by omega
  simp only [evG] at h1 h2 h3 h4;generalize l.any bigR=z at *
  generalize rdP l S=q1 at *
  generalize wrP l S=q2 at *
  cases z
  ·simp [q0a,-y0,-y7,-y3,y6,haw,hc,h',h1,h2,h3,h4]
  ·simp [q0a,-y0,-y7,-y3,y6,haw,hc,h']
 ·have h':(10:Int)<l.length:=by omega
  simp [q0a,-y0,-y7,-y3,y6,haw,h']
section
open Go Go.RowKit Go.ChangeShapes Go.WideShapes
def setTs:List TypeId:=[67,71,4,92]
theorem setTs_good:setTs.all (q6k Tryz.prog setTs)=true:=by kernel_rfl
theorem tyB {n:Nat} {a:List AV} (h:TyT Tryz.prog n 4 a):∃ x,a=[.bool x]:=by
 cases n with
 | zero=>exact h.elim
 | succ n =>
  simp only [TyT,Tryz.underlying4] at h;exact h
theorem tyRow {n:Nat} {a:List AV} (h:TyT Tryz.prog n 71 a):∃ r:Bool × List Bool,a=tbC r/\True:=by
 cases n with
 | zero=>exact h.elim
 | succ n =>
  simp only [TyT,Tryz.underlying71] at h;obtain ⟨nl,els,rfl,_,_,_,h4⟩:=h;obtain ⟨L,rfl,hL⟩:=list_T (P:=fun x=>TyT Tryz.prog n 4 x) (p:=fun _=>True) (f:=fun b=>[AV.bool b]) (fun x hx=>by obtain ⟨y,e⟩:=tyB hx; exact ⟨y,e,trivial⟩) els (fun x hx=>(h4 x hx).2);exact ⟨(nl,L),rfl,trivial⟩
theorem tbTy {a:AV} (h:ParT Tryz.prog 67 a):∃ nl,∃ l:Tbl,a=.sl nl (l.map tbC)/\l.length<=9223372036854775807:=by
 obtain ⟨n,⟨hw,_⟩ | ⟨_,h⟩⟩:=h
 ·have hw':q4b Tryz.prog 67=false:=by kernel_rfl
  rw [hw'] at hw;cases hw
 ·cases n with
  | zero=>exact h.elim
  | succ n =>
   simp only [TyT,Tryz.underlying67] at h;obtain ⟨nl,els,e,h1,_,_,h4⟩:=h;injection e with e;obtain ⟨L,rfl,hL⟩:=list_T (P:=fun x=>TyT Tryz.prog n 71 x) (fun x hx=>tyRow hx) els (fun x hx=>(h4 x hx).2);exact ⟨nl,L,e,by simpa [maxLen] using h1⟩
theorem setTy {a:AV} (h:ParT Tryz.prog 92 a):∃ x:Nat,a=.int .u8 x/\x<256:=by
 obtain ⟨n,⟨hw,_⟩ | ⟨_,h⟩⟩:=h
 ·have hw':q4b Tryz.prog 92=false:=by kernel_rfl
  rw [hw'] at hw;cases hw
 ·cases n with
  | zero=>exact h.elim
  | succ n =>
   simp only [TyT,Tryz.underlying92] at h;obtain ⟨x,e,hx⟩:=h;injection e with e;obtain ⟨h1,h2⟩:=u8_of hx;refine ⟨x.toNat,?_,by omega⟩;rw [e,Int.toNat_of_nonneg h1]
end
section
open Go.ChangeShapes Go.WideShapes Go.ChangeAt Go.RowKit
theorem own:ownKnob Tryz.prog.godebug=none:=by kernel_rfl
theorem laidOut:laidOutB Tryz.prog=true:=by kernel_rfl
theorem q5x {H:Type} {enc:TypeId × Value->H} {P:Program} {f:Func} {s:ChangeSpec} {apart fresh handsOn:Bool} {W W':World} {args:Array Value} {v:Value} {ds gs:List (DataW H)} {before pa pv:List MemPlace}
  (hW:DataW.Whole enc P f.params.toList s.vars apart W args.toList ds gs before)
  (hres:∀ (b:Nat) (sp:Nat->Bool) (hd:Bool),DataW.TrodAll enc P W' b sp hd f.resultTypes.toList (v.resultList f.resultTypes.size) (s.fn H (ds++gs)).results [])
  (hargs:DataW.TrodAll enc P W' 0 (fun b=>decide (b<W.heap.size)) true f.params.toList args.toList (s.fn H (ds++gs)).args pa)
  (hvars:DataW.TrodVars enc P W' (fun b=>decide (b<W.heap.size)) s.vars (s.fn H (ds++gs)).vars pv)
  (hb:Below W.heap.size W W'):s.post enc P f apart fresh handsOn false W args v W' :=
 ⟨ds,gs,before,[],pa,pv,hW,hres _ _ _,hargs,hvars,hb.frame _,fun h=>by cases h⟩
end
abbrev joinA (P:Program) (f:FuncId) (fn:Func) (s:ChangeSpec) (c:OpenClaim):Bool:=(c.wf (OpenSpec.ofChange s)&&laidOutB P&&mapsRowed P&&fn.params.all (P.readableRec ·)&&namedTie P c.named s.vars&&(c.stops == [])&&(P.stops == [])&&(c.knobs == [])&&(P.stopKnobs == []))
abbrev joinB (P:Program) (f:FuncId) (fn:Func) (s:ChangeSpec) (c:OpenClaim):Bool:=((c.inPlace == P.inPlace f)&&(c.unfollowed == P.unfollowed f))
abbrev joinC (P:Program) (f:FuncId) (fn:Func) (s:ChangeSpec) (c:OpenClaim):Bool:=((c.recurses == P.recurses f)&&(c.named == P.varsNamed f))
abbrev joinD (P:Program) (f:FuncId) (fn:Func) (s:ChangeSpec) (c:OpenClaim):Bool:=((c.maps == (fn.params.toList++s.plain.varTypes P).any (P.mapsRec ·))&&(c.ifaces == (fn.params.toList++s.plain.varTypes P).any (P.ifacesRec ·))&&(c.mapsOut == P.mapsAmong fn.resultTypes.toList)&&(c.loops == (fn.params.toList++s.plain.varTypes P).any (P.loopsFrom ·))&&(c.wideKeys == (fn.params.toList++s.plain.varTypes P++fn.resultTypes.toList).any (P.wideKeysFrom ·))&&s.vars.all (P.varReadable ·)&&fn.resultTypes.all (fun t=>P.readableRec t&&decide (t<P.types.size))&&(c.ifacesOut == fn.resultTypes.toList.any (P.ifacesRec ·))&&(c.loopsOut == fn.resultTypes.toList.any (P.loopsFrom ·))&&(c.plainKeys == P.plainKeys)&&c.shortTexts.isNone&&P.stopsHeard)
abbrev joinE (P:Program) (f:FuncId) (fn:Func) (s:ChangeSpec) (c:OpenClaim):Bool:=P.mayEnter
abbrev joinF (P:Program) (f:FuncId) (fn:Func) (s:ChangeSpec) (c:OpenClaim):Bool:=(c.lifted == P.liftsFinal)
abbrev joinG (P:Program) (f:FuncId) (fn:Func) (s:ChangeSpec) (c:OpenClaim):Bool:=((P.make == some c.make)&&(c.kinds == (if c.domain.isEmpty then [] else fn.params.toList.map fun t=>match P.underlying t with | some (.int k)=>some k | _=>none))&&(c.pinned == c.pinnedBy)&&(c.veiled == (fn.params.toList++s.plain.varTypes P++fn.resultTypes.toList).any (P.veiledRec ·))&&c.veiledFits P fn.params.toList (fn.params.toList++s.plain.varTypes P++fn.resultTypes.toList))
theorem joined_of {P:Program} {f:FuncId} {fn:Func} {s:ChangeSpec} {c:OpenClaim} (h1:joinA P f fn s c=true) (h2:joinB P f fn s c=true) (h2':joinC P f fn s c=true) (h3:joinD P f fn s c=true) (h4:joinE P f fn s c=true) (h5:joinF P f fn s c=true) (h6:joinG P f fn s c=true):joinedFacts P f fn s c=true:=by
 have e:joinedFacts P f fn s c=((c.wf (OpenSpec.ofChange s)&&laidOutB P&&mapsRowed P&&fn.params.all (P.readableRec ·)&&namedTie P c.named s.vars&&(c.stops == [])&&(P.stops == [])&&(c.knobs == [])&&(P.stopKnobs == []))&&(((c.inPlace == P.inPlace f)&&(c.unfollowed == P.unfollowed f))&&(((c.recurses == P.recurses f)&&(c.named == P.varsNamed f))&&(((c.maps == (fn.params.toList++s.plain.varTypes P).any (P.mapsRec ·))&&(c.ifaces == (fn.params.toList++s.plain.varTypes P).any (P.ifacesRec ·))&&(c.mapsOut == P.mapsAmong fn.resultTypes.toList)&&(c.loops == (fn.params.toList++s.plain.varTypes P).any (P.loopsFrom ·))&&(c.wideKeys == (fn.params.toList++s.plain.varTypes P++fn.resultTypes.toList).any (P.wideKeysFrom ·))&&s.vars.all (P.varReadable ·)&&fn.resultTypes.all (fun t=>P.readableRec t&&decide (t<P.types.size))&&(c.ifacesOut == fn.resultTypes.toList.any (P.ifacesRec ·))&&(c.loopsOut == fn.resultTypes.toList.any (P.loopsFrom ·))&&(c.plainKeys == P.plainKeys)&&c.shortTexts.isNone&&P.stopsHeard)&&(P.mayEnter&&((c.lifted == P.liftsFinal)&&((P.make == some c.make)&&(c.kinds == (if c.domain.isEmpty then [] else fn.params.toList.map fun t=>match P.underlying t with | some (.int k)=>some k | _=>none))&&(c.pinned == c.pinnedBy)&&(c.veiled == (fn.params.toList++s.plain.varTypes P++fn.resultTypes.toList).any (P.veiledRec ·))&&c.veiledFits P fn.params.toList (fn.params.toList++s.plain.varTypes P++fn.resultTypes.toList)))))))):=by
  simp only [joinedFacts,Bool.and_assoc];rfl
 dsimp only [joinA,joinB,joinC,joinD,joinE,joinF,joinG] at h1 h2 h2' h3 h4 h5 h6;rw [e,h1,h2,h2',h3,h4,h5,h6];rfl
theorem u8_nat {x:Nat} (h:x<256):IntKind.u8.wrap (x:Int)=x:=IntWalk.u8_in _ (by omega)
theorem gOr {x y:Nat} (hx:x<256) (hy:y<256):binC .or false (.int .u8 x) (.int .u8 y)=some (.int .u8 (x ||| y:Nat)):=by
 have h:binC .or false (.int .u8 x) (.int .u8 y)=some (bitsC .u8 (BitVec.ofInt 8 x ||| BitVec.ofInt 8 y)):=rfl;have h2:x ||| y<2 ^ 8:=Nat.or_lt_two_pow hx hy;rw [h];show some (AV.int .u8 (IntKind.u8.wrap ((BitVec.ofInt 8 x ||| BitVec.ofInt 8 y).toNat:Nat)))=_;rw [BitVec.ofInt_natCast,BitVec.ofInt_natCast,BitVec.toNat_or,BitVec.toNat_ofNat,BitVec.toNat_ofNat,Nat.mod_eq_of_lt hx,Nat.mod_eq_of_lt hy,u8_nat h2]
theorem gAnd {x y:Nat} (hx:x<256) (hy:y<256):binC .and false (.int .u8 x) (.int .u8 y)=some (.int .u8 (x &&& y:Nat)):=by
 have h:binC .and false (.int .u8 x) (.int .u8 y)=some (bitsC .u8 (BitVec.ofInt 8 x &&& BitVec.ofInt 8 y)):=rfl;have h2:x &&& y<256:=Nat.lt_of_le_of_lt Nat.and_le_left hx;rw [h];show some (AV.int .u8 (IntKind.u8.wrap ((BitVec.ofInt 8 x &&& BitVec.ofInt 8 y).toNat:Nat)))=_;rw [BitVec.ofInt_natCast,BitVec.ofInt_natCast,BitVec.toNat_and,BitVec.toNat_ofNat,BitVec.toNat_ofNat,Nat.mod_eq_of_lt hx,Nat.mod_eq_of_lt hy,u8_nat h2]
def Sub (x y:Nat):Prop:=∀ i,x.testBit i=true->y.testBit i=true
theorem gNot {x y:Nat} (hx:x<256) (hy:y<256) (hs:Sub x y):binC .andNot false (.int .u8 x) (.int .u8 y)=some (.int .u8 0):=by
 have h:binC .andNot false (.int .u8 x) (.int .u8 y)=some (bitsC .u8 (BitVec.ofInt 8 x &&& ~~~ BitVec.ofInt 8 y)):=rfl;have h2:BitVec.ofInt 8 x &&& ~~~ BitVec.ofInt 8 y=0#8:=by
  rw [BitVec.ofInt_natCast,BitVec.ofInt_natCast];apply BitVec.eq_of_getLsbD_eq;intro i hi;have:=hs i;simp only [BitVec.getLsbD_and,BitVec.getLsbD_not,BitVec.getLsbD_ofNat,hi,decide_true,Bool.true_and,BitVec.getLsbD_zero];cases hxx:x.testBit i
  ·simp
  ·rw [this hxx]; simp
 rw [h,h2];rfl
theorem gMask_tab:(List.range 9).all (fun n=>AV.beqO (binC .shl false (.int .u8 1) (.int .i64 n)) (some (.int .u8 (2 ^ n % 256:Nat)))&&AV.beqO (binC .sub false (.int .u8 (2 ^ n % 256:Nat)) (.int .u8 1)) (some (.int .u8 (2 ^ n - 1:Nat))))=true:=by decide +kernel
theorem gMask {n:Nat} (h:n<=8):binC .shl false (.int .u8 1) (.int .i64 n)=some (.int .u8 (2 ^ n % 256:Nat))/\binC .sub false (.int .u8 (2 ^ n % 256:Nat)) (.int .u8 1)=some (.int .u8 (2 ^ n - 1:Nat)):=by
 have:=y5.1 gMask_tab n (List.mem_range.2 (by omega));simp only [y8] at this;exact ⟨AV.beqO_eq _ _ this.1,AV.beqO_eq _ _ this.2⟩
theorem maskP_bit (ok:Nat->Bool) (i:Nat):∀ k,(q0w ok k).testBit i=(decide (i<k)&&ok i)
 | 0=>by simp [q0w]
 | k + 1=>by
  have ih:=maskP_bit ok i k;unfold q0w;by_cases hik:i=k
  ·subst hik;have h0:(q0w ok i).testBit i=false:=by rw [ih]; simp
   split
   ·rename_i h;simp [Nat.testBit_or,h0,h,Nat.testBit_two_pow_self]
   ·rename_i h;simp [h0,h]
  ·have hp:(2 ^ k).testBit i=false:=by rw [Nat.testBit_two_pow]; simp; omega
   have hd:decide (i<k + 1)=decide (i<k):=by
    by_cases h:i<k
    ·simp [h]; omega
    ·simp [h]; omega
   split
   ·rw [Nat.testBit_or,hp,Bool.or_false,ih,hd]
   ·rw [ih,hd]
theorem inS_bit (S j:Nat):inS S j=S.testBit j:=by
 rw [Nat.testBit_eq_decide_div_mod_eq]; rfl
theorem allS_all (S:Nat) (e:Nat->Bool):∀ n,allS S e n=true ↔ ∀ j,j<n->S.testBit j=true->e j=true
 | 0=>by simp [allS]
 | n + 1=>by
  have ih:=allS_all S e n;simp only [allS,y8,ih,inS_bit];constructor
  ·rintro ⟨h1,h2⟩ j hj hb;by_cases h:j=n
   ·subst h;rw [hb] at h2;simpa using h2
   ·exact h1 j (by omega) hb
  ·intro h;refine ⟨fun j hj=>h j (by omega),?_⟩;cases hb:S.testBit n
   ·simp
   ·simpa using h n (by omega) hb
theorem rd_bit (l:Tbl) (S i:Nat):(rdP l S).testBit i=true ↔ i<min l.length 8/\∀ j,j<min l.length 8->S.testBit j=true->entP l j i=true:=by
 unfold rdP;rw [maskP_bit,y8,allS_all,decide_eq_true_iff]
theorem wr_bit (l:Tbl) (S i:Nat):(wrP l S).testBit i=true ↔ i<min l.length 8/\∀ j,j<min l.length 8->S.testBit j=true->entP l i j=true:=by
 unfold wrP;rw [maskP_bit,y8,allS_all,decide_eq_true_iff]
theorem rd_lt (l:Tbl) (S:Nat):rdP l S<256:=yw (q35 _ _) (ye (Nat.pow_le_pow_right (by omega) (show min l.length 8<=8 by omega)) (by decide))
theorem wr_lt (l:Tbl) (S:Nat):wrP l S<256:=yw (q35 _ _) (ye (Nat.pow_le_pow_right (by omega) (show min l.length 8<=8 by omega)) (by decide))
theorem rd_anti (l:Tbl) (a b:Nat):Sub (rdP l (a ||| b)) (rdP l a):=fun i h=>by
 rw [rd_bit] at h ⊢;exact ⟨h.1,fun j hj hb=>h.2 j hj (by rw [Nat.testBit_or,hb]; rfl)⟩
theorem wr_anti (l:Tbl) (a b:Nat):Sub (wrP l (a ||| b)) (wrP l a):=fun i h=>by
 rw [wr_bit] at h ⊢;exact ⟨h.1,fun j hj hb=>h.2 j hj (by rw [Nat.testBit_or,hb]; rfl)⟩
theorem q6X (n i:Nat):(2 ^ n - 1).testBit i=decide (i<n):=Nat.testBit_two_pow_sub_one n i
theorem rd_in (l:Tbl) (S:Nat) (h:l.length<=8):Sub (rdP l S) (2 ^ l.length - 1):=fun i hi=>by
 rw [rd_bit] at hi;rw [q6X];simp;omega
theorem wr_in (l:Tbl) (S:Nat) (h:l.length<=8):Sub (wrP l S) (2 ^ l.length - 1):=fun i hi=>by
 rw [wr_bit] at hi;rw [q6X];simp;omega
theorem gal1 (l:Tbl) (a:Nat) (h:l.length<=8):Sub (a &&& (2 ^ l.length - 1)) (wrP l (rdP l (a &&& (2 ^ l.length - 1)))):=fun i hi=>by
 have hi':=hi;rw [Nat.testBit_and,q6X,y8,decide_eq_true_iff] at hi';rw [wr_bit];refine ⟨by omega,fun j hj hb=>?_⟩;rw [rd_bit] at hb;exact hb.2 i (by omega) hi
theorem gal2 (l:Tbl) (a:Nat) (h:l.length<=8):Sub (a &&& (2 ^ l.length - 1)) (rdP l (wrP l (a &&& (2 ^ l.length - 1)))):=fun i hi=>by
 have hi':=hi;rw [Nat.testBit_and,q6X,y8,decide_eq_true_iff] at hi';rw [rd_bit];refine ⟨by omega,fun j hj hb=>?_⟩;rw [wr_bit] at hb;exact hb.2 i (by omega) hi
theorem gk_gtr {k:IntKind} {a b:Int}:binC .gtr false (.int k a) (.int k b)=some (.bool (decide (b<a))):=by simp [binC]
theorem gk_neq {k:IntKind} {a b:Int}:binC .neq false (.int k a) (.int k b)=some (.bool (decide (a≠b))):=by simp [binC]
theorem galois_ev (nl:Bool) (l:Tbl) (hl:l.length<=9223372036854775807) {A B:Nat} (hA:A<256) (hB:B<256):evG 16 [.sl nl (l.map tbC),.int .u8 A,.int .u8 B] (.bool true):=by
 refine evC_intro q08 rfl rfl ?_ (by rfl);have haw:=awake24_ev;have hc:=ev_G (q6j 65 l bigR hl (fun x _=>galF_ev x) nl);simp only [evG] at haw hc;by_cases h:l.length<=8
 ·have h':¬ (8:Int)<l.length:=by omega
  cases hz:l.any bigR
  ·rw [hz] at hc;obtain ⟨m1,m2⟩:=gMask h;have hm:2 ^ l.length - 1<256:=by
    have:2 ^ l.length<=2 ^ 8:=Nat.pow_le_pow_right (by omega) h;omega
   have a1:=gAnd hA hm;have a2:=gAnd hB hm;have s1:A &&& (2 ^ l.length - 1)<256:=Nat.lt_of_le_of_lt Nat.and_le_left hA;have s2:B &&& (2 ^ l.length - 1)<256:=Nat.lt_of_le_of_lt Nat.and_le_left hB;have g1:=gal1 l A h;have g2:=gal2 l A h;generalize A &&& (2 ^ l.length - 1)=a at *
   generalize B &&& (2 ^ l.length - 1)=b at *
   have o1:=gOr s1 s2;have s3:a ||| b<256:=Nat.or_lt_two_pow (n:=8) s1 s2;have r1:=ev_G (prd_ev nl l s1 (by omega));have r2:=ev_G (pwr_ev nl l s1 (by omega));have r3:=ev_G (prd_ev nl l s3 (by omega));have r4:=ev_G (pwr_ev nl l s3 (by omega));have r5:=ev_G (pwr_ev nl l (rd_lt l a) (by omega));have r6:=ev_G (prd_ev nl l (wr_lt l a) (by omega));have n1:=gNot (rd_lt _ _) (rd_lt _ _) (rd_anti l a b);have n2:=gNot (wr_lt _ _) (wr_lt _ _) (wr_anti l a b);have n3:=gNot (rd_lt _ _) hm (rd_in l a h);have n4:=gNot (wr_lt _ _) hm (wr_in l a h);have n5:=gNot s1 (wr_lt _ _) g1;have n6:=gNot s1 (rd_lt _ _) g2;simp only [evG] at r1 r2 r3 r4 r5 r6;generalize rdP l (wrP l a)=v1 at *
   generalize wrP l (rdP l a)=v2 at *
   generalize rdP l (a ||| b)=v3 at *
   generalize wrP l (a ||| b)=v4 at *
   generalize rdP l a=v5 at *
   generalize wrP l a=v6 at *
   generalize a ||| b=v7 at *
   generalize (2 ^ l.length % 256:Nat)=v8 at *
   generalize (2 ^ l.length - 1:Nat)=v9 at *
   simp [q08,-y0,-y7,-y3,y6,-binC,gk_gtr,gk_neq,q0B,haw,hc,h',m1,m2,a1,a2,o1,r1,r2,r3,r4,r5,r6,n1,n2,n3,n4,n5,n6]
  ·rw [hz] at hc;simp [q08,-y0,-y7,-y3,y6,haw,hc,h']
 ·have h':(8:Int)<l.length:=by omega
  simp [q08,-y0,-y7,-y3,y6,haw,h']
end Go.Proofs.YtbnlmgncbgaepaaGreat
