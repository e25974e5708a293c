/- Plain laws: volumes, hits; what is hit lies in the box. -/
import Derived.Test.YtngdehlpoomaiaaGreatVa
import Derived.Test.YtngdehlpoomaiaaGreatYa
import Derived.Test.YtngdehlpoomaiaaGreatChecked
import Derived.Tactics
import Derived.Tactics2
import Derived.Defers
import Derived.Laws.Pointers
import Derived.Laws.LoneSync
import Derived.RegionTactic
import Derived.RegionCalls
import Derived.ChangeAlike
import Derived.Test.YtngdehlpoomaiaaGreatEvL
import Derived.Laws.Tables
noncomputable section
set_option linter.unusedSectionVars false
set_option linter.unusedVariables false
set_option linter.unusedSimpArgs false
namespace Go.Proofs.YtngdehlpoomaiaaGreat
open Go Go.Ev Go.Proofs
abbrev Nr (p:P3):Prop:=(-1048576<=p.1/\ p.1<=1048576)/\ (-1048576<=p.2.1/\ p.2.1<=1048576)/\ (-1048576<=p.2.2/\ p.2.2<=1048576)
theorem AL (x:List Int) (hl:x.length<4611686018427387904):G5 x/\ Ys x= !x.any (fun v=>decide (v< -1048576)||decide (v>1048576)):=by
 refine iq x hl _ _ _ (fun i hi=> ?_) (fun i v hv=> ?_) ?_
 ·dsimp only [FF,kU,Tr.val,Tr.pre];(try dsimp only [az,ak])
  intro h
  simp only [Int.toNat_natCast]
  exact ⟨⟨by omega,by omega⟩,by omega,by omega⟩
 ·have hlt:=cz hv
  dsimp only [nS,kU,Tr.val,Tr.pre];(try dsimp only [az,ak])
  rw [if_pos (by omega),Int.toNat_natCast,gW hv]
  by_cases h1:v< -1048576
  ·simp [h1]
  ·by_cases h2:v>1048576
   ·simp [h1,h2]
   ·simp [h1,h2]
 ·dsimp only [nS,kU,Tr.val,Tr.pre];(try dsimp only [az,ak])
  rw [if_neg (by omega)]
theorem Gk {x:List P3} (hl:x.length<4611686018427387904) (h: ∀p∈x,Nr p):qE x/\ S0 x=true:=by
 have key:qE x/\ S0 x= !x.any (fun p=> !decide (Nr p)):=by
  have hn: ∀a b c:Int,Ys [a,b,c]=decide (Nr (a,b,c)):=fun a b c=>by
   rw [(AL [a,b,c] (by simp)).2,Bool.eq_iff_iff];simp
  refine iq x hl _ _ _ (fun i hi=> ?_) (fun i v hv=> ?_) ?_
  ·unfold x4
   intro h
   simp only [Int.toNat_natCast]
   exact ⟨⟨by omega,by omega⟩,by omega,by omega,(AL _ (by simp)).1⟩
  ·have hlt:=cz hv
   unfold jR
   rw [if_pos (by omega),Int.toNat_natCast,gW hv]
   unfold ak
   rw [hn]
  ·unfold jR
   rw [if_neg (by omega)]
 refine ⟨key.1,?_⟩
 rw [key.2]
 simp only [Bool.not_eq_true',List.any_eq_false]
 intro p hp
 rw [decide_eq_true (h p hp)]
 decide
def sb (a b:P3):P3:=(a.1- b.1,a.2.1- b.2.1,a.2.2- b.2.2)
def CR (p q:P3):P3:=(p.2.1*q.2.2- p.2.2*q.2.1,p.2.2*q.1- p.1*q.2.2,p.1*q.2.1- p.2.1*q.1)
def dt (p q:P3):Int:=p.1*q.1+p.2.1*q.2.1+p.2.2*q.2.2
def kz (a b c d:P3):Int:=dt (CR (sb b a) (sb c a)) (sb d a)
abbrev Bd (m:Int) (p:P3):Prop:=(-m<=p.1/\ p.1<=m)/\ (-m<=p.2.1/\ p.2.1<=m)/\ (-m<=p.2.2/\ p.2.2<=m)
theorem sE {a b:P3} (ha:dB a) (hb:dB b):Bd 32768 (sb a b):=by
 unfold sb
 refine ⟨⟨?_,?_⟩,⟨?_,?_⟩,?_,?_⟩<;>dsimp only<;>omega
theorem uJ {a b:P3} (ha:dB a) (hb:dB b):RH (a,b)/\ aks (a,b)=sb a b:=by
 obtain ⟨h1,h2⟩:=Gk (x:= [a,b]) (by simp) (fun p hp=>by
  simp only [List.mem_cons,List.not_mem_nil,or_false] at hp
  rcases hp with rfl|rfl
  ·exact ⟨by omega,by omega,by omega⟩
  ·exact ⟨by omega,by omega,by omega⟩)
 refine ⟨h1,?_⟩
 unfold aks ak ig FH
 dsimp only
 rw [h2,if_neg (by decide),ax (by omega) (by omega),ax (by omega) (by omega),ax (by omega) (by omega)]
 rfl
theorem jb {a b:Int} (ha: -32768<=a/\ a<=32768) (hb: -32768<=b/\ b<=32768): -1073741824<=a*b/\ a*b<=1073741824:=qJ (A:=32768) (B:=32768) ha.1 ha.2 hb.1 hb.2
theorem Y1 {p q:P3} (hp:Bd 32768 p) (hq:Bd 32768 q):Bd 2147483648 (CR p q):=by
 have h1:=jb hp.2.1 hq.2.2
 have h2:=jb hp.2.2 hq.2.1
 have h3:=jb hp.2.2 hq.1
 have h4:=jb hp.1 hq.2.2
 have h5:=jb hp.1 hq.2.1
 have h6:=jb hp.2.1 hq.1
 unfold CR
 refine ⟨⟨?_,?_⟩,⟨?_,?_⟩,?_,?_⟩<;>dsimp only<;>omega
theorem rN {p q:P3} (hp:Bd 32768 p) (hq:Bd 32768 q):Hj (p,q)/\ Sm (p,q)=(CR p q,0):=by
 obtain ⟨g1,g2⟩:=Gk (x:= [p,q]) (by simp) (fun r hr=>by
  simp only [List.mem_cons,List.not_mem_nil,or_false] at hr
  rcases hr with rfl|rfl
  ·exact ⟨by omega,by omega,by omega⟩
  ·exact ⟨by omega,by omega,by omega⟩)
 refine ⟨g1,?_⟩
 have h1:=jb hp.2.1 hq.2.2
 have h2:=jb hp.2.2 hq.2.1
 have h3:=jb hp.2.2 hq.1
 have h4:=jb hp.1 hq.2.2
 have h5:=jb hp.1 hq.2.1
 have h6:=jb hp.2.1 hq.1
 unfold Sm ak ig FH CR
 dsimp only
 rw [g2,if_neg (by decide),ax (n:=p.2.1*q.2.2) (by omega) (by omega),ax (n:=p.2.2*q.2.1) (by omega) (by omega),ax (n:=p.2.2*q.1) (by omega) (by omega),ax (n:=p.1*q.2.2) (by omega) (by omega),ax (n:=p.1*q.2.1) (by omega) (by omega),ax (n:=p.2.1*q.1) (by omega) (by omega),
  ax (by omega) (by omega),ax (by omega) (by omega),ax (by omega) (by omega)]
theorem sm1 {a:P3} (ha:dB a): ∀p∈ [a],dB p:=fun p hp=>by rw [List.mem_singleton] at hp;rw [hp];exact ha
theorem sm2 {a b:P3} (ha:dB a) (hb:dB b): ∀p∈ [a,b],dB p:=fun p hp=>by
 rcases List.mem_cons.1 hp with rfl|hp
 ·exact ha
 ·exact sm1 hb p hp
theorem sm3 {a b c:P3} (ha:dB a) (hb:dB b) (hc:dB c): ∀p∈ [a,b,c],dB p:=fun p hp=>by
 rcases List.mem_cons.1 hp with rfl|hp
 ·exact ha
 ·exact sm2 hb hc p hp
theorem yO {x:List P3} (hl:x.length<4611686018427387904) (h: ∀p∈x,dB p):hO x/\ oP x=true:=⟨(gZ x hl).1,by rw [(gZ x hl).2];exact decide_eq_true h⟩
theorem Ke {a b c d:P3} (ha:dB a) (hb:dB b) (hc:dB c) (hd:dB d):FG (a,b,c,d)/\ anO (a,b,c,d)=(kz a b c d,0):=by
 obtain ⟨s1,s2⟩:=yO (x:= [a,b,c]) (by simp) (sm3 ha hb hc)
 obtain ⟨s3,s4⟩:=yO (x:= [d]) (by simp) (sm1 hd)
 obtain ⟨u1,u2⟩:=uJ hb ha
 obtain ⟨v1,v2⟩:=uJ hc ha
 obtain ⟨w1,w2⟩:=uJ hd ha
 obtain ⟨c1,c2⟩:=rN (sE hb ha) (sE hc ha)
 have cb:=Y1 (sE hb ha) (sE hc ha)
 have db:=sE hd ha
 have n2:DM (a,b,c)=(CR (sb b a) (sb c a),0):=by
  unfold DM;dsimp only [acE,vv,Tr.val,Tr.pre];(try dsimp only [az,ak])
  rw [s2,if_neg (by decide),u2,v2,c2]
 have n1:ou (a,b,c):=by
  unfold ou;dsimp only [Ah,vv,Tr.val,Tr.pre];(try dsimp only [az,ak])
  rw [u2,v2]
  exact ⟨s1,fun _=>⟨u1,v1,c1⟩⟩
 dsimp only [FG,anO,Uu,Tr.val,Tr.pre];(try dsimp only [az,ak])
 rw [n2,s4,w2]
 refine ⟨⟨n1,fun _=>⟨s3,fun _=>w1⟩⟩,?_⟩
 try dsimp only
 rw [if_neg (by decide),if_neg (by decide)]
 unfold kz
 generalize CR (sb b a) (sb c a)=p at*
 generalize sb d a=q at*
 have e1:=qJ (a:=p.1) (b:=q.1) (A:=2147483648) (B:=32768) cb.1.1 cb.1.2 db.1.1 db.1.2
 have e2:=qJ (a:=p.2.1) (b:=q.2.1) (A:=2147483648) (B:=32768) cb.2.1.1 cb.2.1.2 db.2.1.1 db.2.1.2
 have e3:=qJ (a:=p.2.2) (b:=q.2.2) (A:=2147483648) (B:=32768) cb.2.2.1 cb.2.2.2 db.2.2.1 db.2.2.2
 rw [ax (n:=p.1*q.1) (by omega) (by omega),ax (n:=p.2.1*q.2.1) (by omega) (by omega),ax (n:=p.2.2*q.2.2) (by omega) (by omega),ax (n:=p.1*q.1+p.2.1*q.2.1) (by omega) (by omega),ax (by omega) (by omega)]
 rfl
abbrev SmT (t:T3):Prop:=dB t.1/\ dB t.2.1/\ dB t.2.2
def dI (a:P3) (t:T3):Int:=kz t.1 t.2.1 t.2.2 a
theorem Xm {a:P3} {t:T3} (ha:dB a) (ht:SmT t):QH (a,t)/\ aj0 (a,t)=(wV (dI a t) 0,0):=by
 obtain ⟨h1,h2⟩:=Ke ht.1 ht.2.1 ht.2.2 ha
 refine ⟨h1,?_⟩
 unfold aj0 ak
 dsimp only
 rw [h2,uZ]
 rfl
theorem agS (l:List Int) (hl:l.length<4611686018427387904):UQ (false,l)/\ arp (false,l)= !l.any (fun n=> !decide (n>=0)):=by
 refine iq l hl _ _ _ (fun i hi=> ?_) (fun i v hv=> ?_) ?_
 ·unfold He
  intro h
  simp only [Int.toNat_natCast]
  dsimp only at h ⊢
  exact ⟨⟨by omega,by omega⟩,by omega,by omega⟩
 ·have hlt:=cz hv
  unfold pq
  dsimp only
  rw [if_pos (by omega),Int.toNat_natCast,gW hv]
  unfold ak Oo
  rfl
 ·unfold pq
  dsimp only
  rw [if_neg (by omega)]
theorem agR (l:List Int) (hl:l.length<4611686018427387904):UP (false,l)/\ aro (false,l)= !l.any (fun n=> !decide (n<=0)):=by
 refine iq l hl _ _ _ (fun i hi=> ?_) (fun i v hv=> ?_) ?_
 ·unfold G9
  intro h
  simp only [Int.toNat_natCast]
  dsimp only at h ⊢
  exact ⟨⟨by omega,by omega⟩,by omega,by omega⟩
 ·have hlt:=cz hv
  unfold pg
  dsimp only
  rw [if_pos (by omega),Int.toNat_natCast,gW hv]
  unfold ak aie
  rfl
 ·unfold pg
  dsimp only
  rw [if_neg (by omega)]
def Jd (a b:P3) (t:T3):Prop:=((dI a t<0/\ 0<dI b t)\/ (dI b t<0/\ 0<dI a t))/\
 ((0<=kz a b t.1 t.2.1/\ 0<=kz a b t.2.1 t.2.2/\ 0<=kz a b t.2.2 t.1)\/ (kz a b t.1 t.2.1<=0/\ kz a b t.2.1 t.2.2<=0/\ kz a b t.2.2 t.1<=0))
instance (a b:P3) (t:T3):Decidable (Jd a b t):=by unfold Jd;infer_instance
theorem abQ (x:Int):(wV x 0= -1/\ x<0)\/ (wV x 0=0/\ x=0)\/ (wV x 0=1/\ 0<x):=by unfold wV;split<;>(try split)<;>omega
theorem amv {a b:P3} {t:T3} (ha:dB a) (hb:dB b) (ht:SmT t):Dm (a,b,t)/\ aim (a,b,t)=(decide (Jd a b t),0):=by
 obtain ⟨s1,s2⟩:=yO (x:= [a,b]) (by simp) (sm2 ha hb)
 obtain ⟨s3,s4⟩:=yO (x:= [t.1,t.2.1,t.2.2]) (by simp) (sm3 ht.1 ht.2.1 ht.2.2)
 obtain ⟨a1,a2⟩:=Xm ha ht
 obtain ⟨b1,b2⟩:=Xm hb ht
 obtain ⟨r1,r2⟩:=Ke ha hb ht.1 ht.2.1
 obtain ⟨r3,r4⟩:=Ke ha hb ht.2.1 ht.2.2
 obtain ⟨r5,r6⟩:=Ke ha hb ht.2.2 ht.1
 dsimp only [Dm,aim,SP,Tr.val,Tr.pre];(try dsimp only [az,ak])
 rw [s2,s4,a2,b2,r2,r4,r6]
 have hu:=agS [kz a b t.1 t.2.1,kz a b t.2.1 t.2.2,kz a b t.2.2 t.1] (by simp)
 have hd:=agR [kz a b t.1 t.2.1,kz a b t.2.1 t.2.2,kz a b t.2.2 t.1] (by simp)
 refine ⟨⟨s1,fun _=>⟨s3,fun _=>⟨a1,b1,fun _=>⟨r1,r3,r5,hu.1,fun _=>hd.1⟩⟩⟩⟩,?_⟩
 rw [if_neg (by decide),if_neg (by decide)]
 try dsimp only
 rw [hu.2,hd.2]
 have hx:=abQ (dI a t)
 have hy:=abQ (dI b t)
 by_cases hs:(dI a t<0/\ 0<dI b t)\/ (dI b t<0/\ 0<dI a t)
 ·have hw:au (wV (dI a t) 0*wV (dI b t) 0)= -1:=by
   rcases hs with ⟨h1,h2⟩|⟨h1,h2⟩
   ·have e1:wV (dI a t) 0= -1:=by omega
    have e2:wV (dI b t) 0=1:=by omega
    rw [e1,e2];rfl
   ·have e1:wV (dI a t) 0=1:=by omega
    have e2:wV (dI b t) 0= -1:=by omega
    rw [e1,e2];rfl
  rw [hw,if_neg (by decide)]
  simp only [List.any_cons,List.any_nil,Bool.or_false,Jd,hs,true_and]
  by_cases h1:0<=kz a b t.1 t.2.1/\ 0<=kz a b t.2.1 t.2.2/\ 0<=kz a b t.2.2 t.1
  ·simp [h1]
  ·rw [if_neg (by simp;omega)]
   congr 1
   rw [Bool.eq_iff_iff]
   simp
   omega
 ·have hw:au (wV (dI a t) 0*wV (dI b t) 0)≥0:=by
   rcases hx with ⟨e1,h1⟩|⟨e1,h1⟩|⟨e1,h1⟩<;>rcases hy with ⟨e2,h2⟩|⟨e2,h2⟩|⟨e2,h2⟩<;>rw [e1,e2]<;>first|decide|(exfalso;omega)
  rw [if_pos hw]
  congr 1
  exact (decide_eq_false fun h=>hs h.1).symm
end Go.Proofs.YtngdehlpoomaiaaGreat
namespace Go.Proofs.YtngdehlpoomaiaaGreat
open Go Go.Proofs
theorem Wh (w:World):(callFunc 202 #[]).run Tryz.prog w= .ok (.value (.tuple #[])) w:=run_call_mark0 Tryz.func202 (by kernel_rfl) (by kernel_rfl) (by kernel_rfl) .disable (by kernel_rfl) w
theorem acF (w:World):(callFunc 204 #[]).run Tryz.prog w= .ok (.value (.tuple #[])) w:=run_call_mark0 Tryz.func204 (by kernel_rfl) (by kernel_rfl) (by kernel_rfl) .enable (by kernel_rfl) w
theorem aji (a:Addr) (w:World):(callFunc 205 #[.pointer (some a)]).run Tryz.prog w= .ok (.value (.tuple #[])) w:=run_call_marked Tryz.func205 (by kernel_rfl) (by kernel_rfl) (by kernel_rfl) .acquire (by kernel_rfl) a w
theorem ajj (a:Addr) (w:World):(callFunc 207 #[.pointer (some a)]).run Tryz.prog w= .ok (.value (.tuple #[])) w:=run_call_marked Tryz.func207 (by kernel_rfl) (by kernel_rfl) (by kernel_rfl) .releaseMerge (by kernel_rfl) a w
theorem asP (a:Addr) (x:Int) (w:World) (hc:w.cell? a=some (.int .u32 x)):Calls Tryz.prog 142 #[.pointer (some a)] w fun e w'=>e= .returned (.bool (x !=0))/\ w'=w:=by
 have hl:=run_call_load (P:=Tryz.prog) Tryz.func159 (by kernel_rfl) (by kernel_rfl) (by kernel_rfl) .u32 (by kernel_rfl) hc
 go_enter Tryz.func142,Tryz.ntmps142
 go_wp2
 go_ret
 exact ⟨rfl,rfl⟩
theorem aql (a:Addr) (x y:Int) (w:World) (hc:w.cell? a=some (.int .i64 x)) (hz:w.frozen? a=false):Calls Tryz.prog 122 #[.pointer (some a),.int .i64 y] w fun e w'=>e= .returned (.int .i64 (IntKind.wrap .i64 (x+y)))/\ w'=w.setCell a (.int .i64 (IntKind.wrap .i64 (x+y))):=by
 have Oj:=run_call_add (P:=Tryz.prog) Tryz.func141 (by kernel_rfl) (by kernel_rfl) (by kernel_rfl) .i64 (by kernel_rfl) (y:=y) (s:=IntKind.wrap .i64 (x+y)) hc hz (by simp [go_sem];try rfl)
 generalize IntKind.wrap .i64 (x+y)=S at*
 go_enter Tryz.func122,Tryz.ntmps122
 go_wp2
 go_ret
 exact ⟨rfl,rfl⟩
set_option maxRecDepth 100000 in
set_option maxHeartbeats 1600000 in
theorem am4 (a:Addr) (x:Value) (u:FrameMode) (w:World) (hc:w.cell? a=some x) (hz:w.frozen? a=false):
  CallsD Tryz.prog 162 #[.pointer (some a),.bool true] u w fun e u' w'=>u'=u/\ (e= .returned (.tuple #[])/\ w'=w.drew.setCell a (.int .u32 1)):=by
 have Jj:w.drew.cell? a=some x:=by go_simp
 have hz':w.drew.frozen? a=false:=by go_simp
 have hst:=run_call_store (P:=Tryz.prog) Tryz.func183 (by kernel_rfl) (by kernel_rfl) (by kernel_rfl) (by kernel_rfl) (k:= .u32) (y:=1) Jj hz'
 go_enter_d Tryz.func162,Tryz.ntmps162
 go_wp2
 go_region_calls
 all_goals (go_end0;exact ⟨rfl,rfl⟩)
set_option maxRecDepth 100000 in
set_option maxHeartbeats 1600000 in
theorem ajk (a:Addr) (u:FrameMode) (w:World) (hc:w.cell? a=some (.int .i32 1)) (hz:w.frozen? a=false):
  CallsD Tryz.prog 161 #[.pointer (some a)] u w fun e u' w'=>u'=u/\ (e= .returned (.tuple #[])/\ w'=w.setCell a (.int .i32 0)):=by
 have hd:=Wh
 have he:=acF
 have hr:=ajj
 have Oj:=run_call_add (P:=Tryz.prog) Tryz.func208 (by kernel_rfl) (by kernel_rfl) (by kernel_rfl) .i32 (by kernel_rfl) (y:= -1) (s:=0) hc hz (by simp [go_sem];rfl)
 have hcv:=run_convert_to_unsafe (P:=Tryz.prog) (src:=244) (dst:=248) Tryz.underlying244 Tryz.underlying248 (by kernel_rfl) hc
 go_enter_d Tryz.func161,Tryz.ntmps161
 go_wp2
 go_end0
 go_wp2
 go_end0
 exact ⟨rfl,rfl⟩
set_option maxRecDepth 100000 in
set_option maxHeartbeats 1600000 in
theorem asQ (a:Addr) (w:World) (hc:w.cell? a=some (.int .i32 0)) (hz:w.frozen? a=false):
  Calls Tryz.prog 160 #[.pointer (some a)] w fun e w'=>e= .returned (.tuple #[])/\ w'=w.setCell a (.int .i32 1):=by
 have hd:=Wh
 have he:=acF
 have ha:=aji
 have axq:=run_call_cas_hit (P:=Tryz.prog) Tryz.func203 (by kernel_rfl) (by kernel_rfl) (by kernel_rfl) .i32 (by kernel_rfl) (y:=1) hc hz
 have Jj:(w.setCell a (.int .i32 1)).cell? a=some (.int .i32 1):=World.cell?_setCell_same w a _ hc
 have hcv:=run_convert_to_unsafe (P:=Tryz.prog) (src:=244) (dst:=248) Tryz.underlying244 Tryz.underlying248 (by kernel_rfl) Jj
 go_enter Tryz.func160,Tryz.ntmps160
 go_wp2
 first|go_end0|(simp only [Exit.inBlock,Exit.then];refine bodyPost_ret (results_none rfl _ _ _) rfl ?_)|refine bodyPost_ret (results_none rfl _ _ _) rfl ?_
 go_wp2
 go_end0
 exact ⟨rfl,rfl⟩
set_option maxRecDepth 100000 in
set_option maxHeartbeats 1600000 in
theorem aox (b off:Nat) (g:FuncId) (cap:Array Value) (w:World) (Q:World->Prop)
  (h0:w.cell? ⟨b,off,none⟩=some (.int .u32 0)) (h1:w.cell? ⟨b,off+1,none⟩=some (.int .i32 0))
  (f1:w.frozen? ⟨b,off+1,none⟩=false) (B5: ∀args w,(callFunc g args).run Tryz.prog w= .ok (.enter g args) w)
  (hg:Calls Tryz.prog g cap (w.setCell ⟨b,off+1,none⟩ (.int .i32 1)) fun e w'=>e= .returned (.tuple #[])/\ Q w')
  (hQ: ∀w',Q w'->(∃x,w'.cell? ⟨b,off,none⟩=some x)/\ w'.cell? ⟨b,off+1,none⟩=some (.int .i32 1)/\ w'.frozen? ⟨b,off,none⟩=false/\ w'.frozen? ⟨b,off+1,none⟩=false):
  Calls Tryz.prog 143 #[.pointer (some ⟨b,off,none⟩),.func (.func g) #[] cap] w fun e w'=>e= .returned (.tuple #[])/\ ∃w1,Q w1/\ w'=(w1.drew.setCell ⟨b,off,none⟩ (.int .u32 1)).setCell ⟨b,off+1,none⟩ (.int .i32 0):=by
 have hl:=run_call_load (P:=Tryz.prog) Tryz.func159 (by kernel_rfl) (by kernel_rfl) (by kernel_rfl) .u32 (by kernel_rfl) (w:=w.setCell ⟨b,off+1,none⟩ (.int .i32 1)) (a:=⟨b,off,none⟩) (x:=0) ((World.cell?_setCell_other _ ⟨b,off+1,none⟩ ⟨b,off,none⟩ _ (by simp)).trans h0)
 have hnot: ∀(x:Bool) (w:World),(Op.unary .not (.bool x)).run Tryz.prog w= .ok (.bool (!x)) w:=fun _ _=>rfl
 go_enter_defers Tryz.func143,Tryz.ntmps143
 go_wp2_with (go_at_call 160;refine (asQ ⟨b,off+1,none⟩ _ (by go_simp) (by go_simp)).mono ?_;rintro e w' ⟨rfl,rfl⟩)
 go_wp2
 rename_i hK
 refine hg.mono ?_
 rintro e w1 ⟨rfl,hq⟩
 obtain ⟨⟨x0,q0⟩,q1,q2,q3⟩:=hQ w1 hq
 refine hK _ _ ?_
 go_wp2
 refine leaves_cons (f:=162) (args:= #[.pointer (some ⟨b,off,none⟩),.bool true]) (by simp) (by simp [go_sem]) ?_
 refine (am4 ⟨b,off,none⟩ x0 .returning _ q0 (by simp [q2])).mono ?_
 rintro e u' w'' ⟨rfl,rfl,rfl⟩
 refine leaves_cons (f:=161) (args:= #[.pointer (some ⟨b,off+1,none⟩)]) (by simp [settle]) (by simp [go_sem]) ?_
 refine (ajk ⟨b,off+1,none⟩ _ _ ?_ (by simp [q3])).mono ?_
 ·refine (World.cell?_setCell_other _ ⟨b,off,none⟩ ⟨b,off+1,none⟩ _ (by simp)).trans ?_
  rw [World.cell?_drew]
  exact q1
 rintro e u' w'' ⟨rfl,rfl,rfl⟩
 simp [Leaves,settle,results,Tryz.results143]
 exact ⟨w1,hq,rfl⟩
end Go.Proofs.YtngdehlpoomaiaaGreat
namespace Go.Ev
open Go.RowKit
theorem Xk {w:World} {b off:Nat} {cs:Array Value} {e:TypeId} {f:Nat×Nat} {v:Value} (h:w.heap[b]? =some (.cells cs e f)):w.setCell ⟨b,off,none⟩ v=w.setRow b (cs.setIfInBounds off v):=by
 unfold World.setCell World.setRow
 congr 1
 apply Array.ext_getElem?
 intro k
 rw [Array.getElem?_modify,Array.getElem?_modify]
 by_cases hk:b=k
 ·subst hk
  rw [if_pos rfl,if_pos rfl,h]
  simp
 ·rw [if_neg hk,if_neg hk]
def ldB:Spec:=fun _ args hp nm k=>match args with
 | [.v (.one (.ptr n off))]=>match hp n with
  |some (.cells cs _)=>match cs[off]? with
   |some (.raw (.int .u32 d))=>k {val:=bG (d !=0),aF:= [n]}
   |_=>False
  |_=>False
 |_=>False
def ayd:Spec:=fun _ args hp nm k=>match args with
 | [.v (.one (.ptr n off))]=>match hp n with
  |some (.cells cs _)=>match cs[off]? with
   |some (.raw (.int .i64 d))=>k {val:=iA .i64 d,aF:= [n]}
   |_=>False
  |_=>False
 |_=>False
def abE:Spec:=fun _ args hp nm k=>match args with
 | [.v (.one (.ptr n off)),.v (.one (.raw (.int .i64 y)))]=>match hp n with
  |some (.cells cs e)=>match cs[off]? with
   |some (.raw (.int .i64 x))=>True/\ ∀z,z=IntKind.wrap .i64 (x+y)->k {val:=iA .i64 z,writes:= [(n,.cells (cs.set off (.raw (.int .i64 z))) e)],aF:= [n]}
   |_=>False
  |_=>False
 |_=>False
section
variable {P:Program} {f:FuncId}
theorem uW {ρ:Env} {w:World} {b off:Nat} {cs:List Cell} {e:TypeId} {c:Cell} (hh:w.heap[b]? =some (.cells (cs.map (Cell.ae ρ)).toArray e (0,0))) (hc:cs[off]? =some c):w.cell? ⟨b,off,none⟩=some (c.ae ρ):=by
 rw [bL hh,List.getElem?_map,hc];rfl
theorem SB {w:World} {b off:Nat} {cs:Array Value} {e:TypeId} (hh:w.heap[b]? =some (.cells cs e (0,0))):w.frozen? ⟨b,off,none⟩=false:=by
 simp [World.frozen?,hh]
theorem ap8 (hr: ∀(a:Addr) (x:Int) (w:World),w.cell? a=some (.int .u32 x)->Calls P f #[.pointer (some a)] w fun e w'=>e= .returned (.bool (x !=0))/\ w'=w):aq P f ldB:=by
 intro X args hp nm k hs
 unfold ldB at hs
 split at hs<;>try (exact hs.elim)
 rename_i n off
 split at hs<;>try (exact hs.elim)
 rename_i cs e he
 split at hs<;>try (exact hs.elim)
 rename_i d hc
 refine ⟨_,⟨fun p fh=>absurd fh (by simp),?_⟩,hs⟩
 intro av W ρ Kn Γ w _ hok ht hfr hst
 have bQ:Γ n=some (.cells cs e):=by rw [ht n (by simp),he]
 obtain ⟨b,hb,hh⟩:=hst.at_ n _ bQ
 have ea:([AV.v (.one (.ptr n off))].map (AV.ae ρ)).toArray= #[.pointer (some ⟨b,off,none⟩)]:=by
  simp [AV.ae,A0.ae,Cell.ae,addrOf,hb]
 rw [ea]
 refine (hr ⟨b,off,none⟩ d w (uW hh hc)).mono ?_
 rintro e' w' ⟨rfl,rfl⟩
 exact ⟨ρ,rfl,fun _ _=>rfl,trivial,by rw [fS,qt];exact hst⟩
theorem St.cell {av:fG} {W w:World} {ρ:Env} {Kn:Nat->Prop} {Γ:HP} {n b off:Nat} {cs:List Cell} {e:TypeId} {v:Value} (hst:St av W ρ Kn Γ w) (bQ:Γ n=some (.cells cs e)) (hb:(ρ n).blk=some b)
  (hh:w.heap[b]? =some (.cells (cs.map (Cell.ae ρ)).toArray e (0,0))):St av W ρ Kn (fO Γ n (.cells (cs.set off (.raw v)) e)) (w.setCell ⟨b,off,Option.none⟩ v):=by
 have e1:((cs.map (Cell.ae ρ)).toArray.setIfInBounds off v)=((cs.set off (.raw v)).map (Cell.ae ρ)).toArray:=by
  rw [List.setIfInBounds_toArray,List.map_set];rfl
 rw [Xk hh,e1]
 refine hst.write bQ hb (fun c hc=> ?_) (fun _ h=>by cases h) fun _=>⟨b,hb,by rw [setRow_heap _ _ _ _ _ _ hh]⟩
 rcases List.mem_or_eq_of_mem_set hc with h1|h1
 ·exact (hst.kn n _ bQ).2 c h1
 ·subst h1;exact trivial
theorem agQ (hr: ∀(a:Addr) (x y:Int) (w:World),w.cell? a=some (.int .i64 x)->w.frozen? a=false->Calls P f #[.pointer (some a),.int .i64 y] w fun e w'=>e= .returned (.int .i64 (IntKind.wrap .i64 (x+y)))/\ w'=w.setCell a (.int .i64 (IntKind.wrap .i64 (x+y)))):aq P f abE:=by
 intro X args hp nm k hs
 unfold abE at hs
 split at hs<;>try (exact hs.elim)
 rename_i n off y
 split at hs<;>try (exact hs.elim)
 rename_i cs e he
 split at hs<;>try (exact hs.elim)
 rename_i x hc
 obtain ⟨_,hk⟩:=hs
 refine ⟨_,⟨fun p fh=> ?_,?_⟩,hk _ rfl⟩
 ·simp only [List.mem_singleton] at fh;subst fh;rw [he];simp
 intro av W ρ Kn Γ w _ hok ht hfr hst
 have bQ:Γ n=some (.cells cs e):=by rw [ht n (by simp),he]
 obtain ⟨b,hb,hh⟩:=hst.at_ n _ bQ
 have ea:([AV.v (.one (.ptr n off)),AV.v (.one (.raw (.int .i64 y)))].map (AV.ae ρ)).toArray= #[.pointer (some ⟨b,off,none⟩),.int .i64 y]:=by
  simp [AV.ae,A0.ae,Cell.ae,addrOf,hb]
 rw [ea]
 refine (hr ⟨b,off,none⟩ x y w (uW hh hc) (SB hh)).mono ?_
 rintro e' w' ⟨rfl,rfl⟩
 exact ⟨ρ,rfl,fun _ _=>rfl,trivial,by rw [fS,mL _ _ _ _ _ _ rfl];exact hst.cell bQ hb hh⟩
end
def abT (cs:List Cell) (off:Nat):List Cell:=(cs.set off (.raw (.int .u32 1))).set (off+1) (.raw (.int .i32 0))
def Xp (n off N:Nat) (R:AV->AS->Prop) (aR:Env) (v:AV) (st:AS):Prop:=match v with
 | .pT []=>rU (ai st.heap N) aR N (match ai st.heap n with
  |some (.cells cs e)=>match cs[off]?,cs[off+1]? with
   |some (.raw (.int .u32 _)),some (.raw (.int .i32 s))=>ob (decide (s=1)) (R ck {tmps:= [],heap:=(st.heap.set N .gone).set n (.cells (abT cs off) e)})
   |_,_=>False
  |_=>False)
 |_=>False
def acV (g:FuncId) (ic:cP):cP:=fun ys args heap R=>match args with
 | [.v (.one (.ptr n off)),.v (.one q)]=>match ahd q with
  |some (g',[],cp)=>if g'=g then (match ai heap n with
   |some (.cells cs e)=>match cs[off]?,cs[off+1]? with
    | some (.raw (.int .u32 d)),some (.raw (.int .i32 s))=>ob (decide (d=0)&&decide (s=0)) (∀aR:Env,
      ic ys cp (iZ (ai (heap.set n (.cells (cs.set (off+1) (.raw (.int .i32 1))) e))) heap.length++ [.cg aR heap.length]) (Xp n off heap.length R aR))
    |_,_=>False
   |_=>False) else False
  |_=>False
 |_=>False
theorem Ym {heap:List aD} {n:Nat} {o:aD} (hn:n<heap.length) (ho:live (some o)=some o):fO (ai heap) n o=ai (heap.set n o):=by
 funext m
 rw [bz,List.getElem?_set]
 unfold fO
 by_cases e:m=n
 ·subst e
  rw [if_pos rfl,if_pos rfl,if_pos hn,ho]
 ·rw [if_neg e,if_neg (Ne.symm e),bz]
theorem Xo {P:Program} {X:Addr->Value->Prop} {f g:FuncId} {ic:cP} (hic:gM P X g ic)
  (hr: ∀(b off:Nat) (cap:Array Value) (w:World) (Q:World->Prop),w.cell? ⟨b,off,none⟩=some (.int .u32 0)->w.cell? ⟨b,off+1,none⟩=some (.int .i32 0)->w.frozen? ⟨b,off+1,none⟩=false->
   (Calls P g cap (w.setCell ⟨b,off+1,none⟩ (.int .i32 1)) fun e w'=>e= .returned (.tuple #[])/\ Q w')->
   (∀w',Q w'->(∃x,w'.cell? ⟨b,off,none⟩=some x)/\ w'.cell? ⟨b,off+1,none⟩=some (.int .i32 1)/\ w'.frozen? ⟨b,off,none⟩=false/\ w'.frozen? ⟨b,off+1,none⟩=false)->
   Calls P f #[.pointer (some ⟨b,off,none⟩),.func (.func g) #[] cap] w fun e w'=>e= .returned (.tuple #[])/\ ∃w1,Q w1/\ w'=(w1.drew.setCell ⟨b,off,none⟩ (.int .u32 1)).setCell ⟨b,off+1,none⟩ (.int .i32 0)):gM P X f (acV g ic):=by
 intro ys args heap R h hy av W ρ w hX hargs hst
 unfold acV at h
 split at h<;>try (exact h.elim)
 rename_i n off q
 split at h<;>try (exact h.elim)
 rename_i g' cp hq
 split at h
 rotate_left
 ·exact h.elim
 rename_i hgg
 subst hgg
 split at h<;>try (exact h.elim)
 rename_i cs e hn
 split at h<;>try (exact h.elim)
 rename_i d s hd hs
 obtain ⟨hds,h⟩:=bh h
 simp only [Bool.and_eq_true,decide_eq_true_eq] at hds
 obtain ⟨rfl,rfl⟩:=hds
 obtain ⟨b,hb,hh⟩:=hst.at_ n _ hn
 have hlt:=e7 hn
 obtain ⟨hqc,hqk⟩:=FX hq
 have au0:q.ok (· <heap.length):=hargs (.v (.one q)) (by simp)
 obtain ⟨_,k2⟩:=hqk _ au0
 have pF:=St.cell hst hn hb hh (off:=off+1) (v:= .int .i32 1)
 rw [Ym hlt rfl] at pF
 have awa:(heap.set n (.cells (cs.set (off+1) (.raw (.int .i32 1))) e)).length=heap.length:=List.length_set
 obtain ⟨wI,ff,xX⟩:=pF.pinned
 have hlen:(iZ (ai (heap.set n (.cells (cs.set (off+1) (.raw (.int .i32 1))) e))) heap.length++ [aD.cg ρ heap.length]).length=heap.length+1:=by simp [bP]
 have xL:=hic ys cp _ _ (h ρ) hy av W wI _ hX (fun x hx=>AV.aT (fun i hi=>by rw [hlen];omega) x (k2 x hx)) (by rw [hlen];exact xX)
 have at6:(cp.map (AV.ae wI)).toArray=(cp.map (AV.ae ρ)).toArray:=by
  congr 1
  exact List.map_congr_left fun x hx=>AV.bu (Kn:=(· <heap.length)) ff x (k2 x hx)
 rw [at6] at xL
 have e1:AV.ae ρ (.v (.one (.ptr n off)))= .pointer (some ⟨b,off,none⟩):=by simp [AV.ae,A0.ae,Cell.ae,addrOf,hb]
 have e2:AV.ae ρ (.v (.one q))= .func (.func g') #[] (cp.map (AV.ae ρ)).toArray:=hqc ρ
 have ahr:([AV.v (.one (.ptr n off)),AV.v (.one q)].map (AV.ae ρ)).toArray= #[.pointer (some ⟨b,off,none⟩),.func (.func g') #[] (cp.map (AV.ae ρ)).toArray]:=by
  simp only [List.map_cons,List.map_nil,e1,e2]
 rw [ahr]
 have facts: ∀(w1:World) (st:AS) (ρ':Env),Xp n off heap.length R ρ ck st->St av W ρ' (· <st.heap.length) (ai st.heap) w1-> ∃YD e2 d2,ai st.heap n=some (.cells YD e2)/\ (ρ' n).blk=some b/\ w1.heap[b]? =some (.cells (YD.map (Cell.ae ρ')).toArray e2 (0,0))/\ YD[off]? =some (.raw (.int .u32 d2))/\ YD[off+1]? =some (.raw (.int .i32 1))/\ R ck {tmps:= [],heap:=(st.heap.set heap.length .gone).set n (.cells (abT YD off) e2)} :=by
  intro w1 st ρ' hR lB
  unfold Xp at hR
  dsimp only [ck] at hR
  obtain ⟨hp1,hR⟩:=dy hR
  split at hR<;>try (exact hR.elim)
  rename_i YD e2 Jm
  split at hR<;>try (exact hR.elim)
  rename_i d2 s2 JJ hs2
  obtain ⟨h1,hR⟩:=bh hR
  have h1:=of_decide_eq_true h1
  subst h1
  obtain ⟨b2,dR,hh2⟩:=lB.at_ n _ Jm
  have sP:ρ' n=ρ n:=(lB.at_ _ _ hp1).2 n hlt
  rw [sP,hb] at dR
  cases dR
  exact ⟨YD,e2,d2,Jm,by rw [sP,hb],hh2,JJ,hs2,hR⟩
 refine (hr b off _ w (fun w1=> ∃st ρ',Xp n off heap.length R ρ ck st/\ St av W ρ' (· <st.heap.length) (ai st.heap) w1) (uW hh hd) (uW hh hs) (SB hh) (xL.mono ?_) ?_).mono ?_
 ·rintro e' w1 ⟨st,ρ',v,rfl,_,hR,lB⟩
  unfold Xp at hR
  split at hR
  ·exact ⟨rfl,st,ρ',hR,lB⟩
  ·exact hR.elim
 ·rintro w1 ⟨st,ρ',hR,lB⟩
  obtain ⟨YD,e2,d2,f1,f2,f3,f4,f5,_⟩:=facts w1 st ρ' hR lB
  exact ⟨⟨_,uW f3 f4⟩,uW f3 f5,SB f3,SB f3⟩
 ·rintro e' w' ⟨rfl,w1,⟨st,ρ',hR,lB⟩,rfl⟩
  obtain ⟨YD,e2,d2,f1,f2,f3,f4,f5,Zj⟩:=facts w1 st ρ' hR lB
  have hnN:n≠heap.length:=by omega
  have g1:St av W ρ' (· <(st.heap.set heap.length .gone).length) (ai (st.heap.set heap.length .gone)) w1.drew:=(lB.drawn (w1.drawn+1) (by omega)).ahn heap.length
  have g2:ai (st.heap.set heap.length .gone) n=some (.cells YD e2):=by
   rw [bz,List.getElem?_set,if_neg (Ne.symm hnN),<- bz];exact f1
  have g3:=St.cell g1 g2 f2 (off:=off) (v:= .int .u32 1) f3
  have g4:fO (ai (st.heap.set heap.length .gone)) n (.cells (YD.set off (.raw (.int .u32 1))) e2) n=some (.cells (YD.set off (.raw (.int .u32 1))) e2):=by simp [fO]
  obtain ⟨b3,hb3,hh3⟩:=g3.at_ n _ g4
  rw [f2] at hb3
  cases hb3
  have g5:=St.cell g3 g4 f2 (off:=off+1) (v:= .int .i32 0) hh3
  refine ⟨_,ρ',ck,rfl,wF _,Zj,?_⟩
  have hl:((st.heap.set heap.length .gone).set n (.cells (abT YD off) e2)).length=(st.heap.set heap.length .gone).length:=List.length_set
  dsimp only
  rw [hl]
  have auS:n<(st.heap.set heap.length .gone).length:=e7 g2
  rw [<- Ym auS rfl]
  have e5:fO (fO (ai (st.heap.set heap.length .gone)) n (.cells (YD.set off (.raw (.int .u32 1))) e2)) n (.cells ((YD.set off (.raw (.int .u32 1))).set (off+1) (.raw (.int .i32 0))) e2)=fO (ai (st.heap.set heap.length .gone)) n (.cells (abT YD off) e2):=by
   funext m;simp only [fO];split<;>rfl
  rw [e5] at g5
  exact g5
end Go.Ev
