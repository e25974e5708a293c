/- Plain laws: what is few. -/
import Derived.Test.YtfgdjlhilladhaaGreatHr
import Derived.Test.YtfgdjlhilladhaaGreatGe
import Derived.Test.YtfgdjlhilladhaaGreatHs
import Derived.Test.YtfgdjlhilladhaaGreatHl
noncomputable section
set_option linter.unusedSectionVars false
set_option linter.unusedVariables false
set_option linter.unusedSimpArgs false
namespace Go.Proofs.YtfgdjlhilladhaaGreat
open Go Go.Ev Go.Proofs
theorem adr (m:rq):FY (m,[]):=by
 refine .mk _ (fun q=> ?_) (fun s' e=> ?_)
 ·exact absurd q (by simp)
 ·cases e
theorem aax (m:rq) (h:Oh (m,[])=true):m.1.length<=20/\ m.2.1.length<=60/\ m.2.2.1.length<=60/\ m.2.2.2.length<=12:=by
 have e:run (sS (m,[])) 0= .inr ():=by rw [run_eq];rfl
 unfold Oh aq at h
 rw [e] at h
 have h:(if ((([]:List (Int×Int×List Int)).length:Nat):Int)<=20 then (if Te m=true then decide (((m.2.2.2.length:Nat):Int)<=12) else false) else false)=true:=h
 rw [if_pos (by decide)] at h
 by_cases c:Te m=true
 ·rw [if_pos c] at h
  have h:=of_decide_eq_true h
  unfold Te at c
  by_cases c1:((m.1.length:Nat):Int)<=20
  ·rw [if_pos c1] at c
   by_cases c2:((m.2.1.length:Nat):Int)<=60
   ·rw [if_pos c2] at c
    by_cases c3:((m.2.2.1.length:Nat):Int)<=60
    ·omega
    ·rw [if_neg c3] at c;cases c
   ·rw [if_neg c2] at c;cases c
  ·rw [if_neg c1] at c;cases c
 ·rw [if_neg c] at h;cases h
structure Few (m:rq) (a:GR):Prop where
 anI:m.1.length<=20/\ m.2.1.length<=60/\ m.2.2.1.length<=60/\ m.2.2.2.length<=12
 sml:Sml a.2.2.2.1
 ama:a.2.2.2.2.length<=30
theorem aay (m:rq) (a:GR):zx (m,a)/\ (Oi (m,a)=true->Few m a):=by
 obtain ⟨b1,b2⟩:=Uy a.2.2.2.1
 have hm:=aax m
 unfold zx Oi az aq
 dsimp only
 refine ⟨⟨adr m,fun _=>b1⟩,?_⟩
 cases hf:Oh (m,[]) with
 |false=>intro q;cases q
 |true=>
  rw [if_pos rfl]
  cases hb:Lc a.2.2.2.1 with
  |true=>intro q;cases q
  |false=>
   rw [if_pos (by decide)]
   by_cases c:((a.2.2.2.2.length:Nat):Int)<=30
   ·intro _
    exact ⟨hm hf,b2 hb,by omega⟩
   ·rw [if_neg c]
    intro q;cases q
end Go.Proofs.YtfgdjlhilladhaaGreat
namespace Go.Proofs.YtfgdjlhilladhaaGreat
open Go Go.Ev Go.Proofs
theorem A2 (x y:Int):nq (x,y)=jO (x,y):=by
 rw [rR]
 unfold nq
 dsimp only
 by_cases h:InT x y
 ·obtain ⟨h1,h2,h3,h4⟩:=id h
  rw [if_pos h,if_neg (by omega),if_neg (by omega),if_neg (by omega),if_neg (by omega),ay (n:=16*x) (by omega) (by omega),ay (n:=16*y) (by omega) (by omega),ay (by omega) (by omega),ay (by omega) (by omega)]
  rfl
 ·rw [if_neg h]
  by_cases c1:x<0
  ·rw [if_pos c1]
  ·rw [if_neg c1]
   by_cases c2:x>255
   ·rw [if_pos c2]
   ·rw [if_neg c2]
    by_cases c3:y<0
    ·rw [if_pos c3]
    ·rw [if_neg c3]
     by_cases c4:y>255
     ·rw [if_pos c4]
     ·exact absurd ⟨by omega,by omega,by omega,by omega⟩ h
theorem Ec (x:Int×(Int×T2×P3×P3×P3)):mA x/\ oW x=iz x:=by
 obtain ⟨x,y,⟨a,b,c⟩,s,t,r⟩:=x
 have hc: ∀p,jA (p,a,b,c)=zl (p,a,b,c):=fun p=>by rw [GX,(yf p a b c).2]
 have hl: ∀p,DG (p,(a,b,c),s,t,r)=OO (p,(a,b,c),s,t,r):=fun p=>by rw [zV,(Hu p a b c s t r).2]
 refine ⟨?_,?_⟩
 ·unfold mA az
  exact fun _=>⟨(yf _ a b c).1,fun _=>(Hu _ a b c s t r).1⟩
 ·unfold oW iz aq
  dsimp only
  rw [A2,hc,hl]
theorem aej (l:List Smp) (hl:l.length<4611686018427387904) (p:P2):YZ (l,p)=match l.findIdx? (fun s=>rS (s,p)) with|some i=>(l.getD i zS,true)|none=>(zS,false):=by
 have h:=kW l hl (fun s=>rS (s,p)) (di (l,p)) (ko (l,p)) (fun i hi=>by
   unfold ko
   intro h
   simp only [Int.toNat_natCast]
   dsimp only at h ⊢;omega) (fun i x hx=>by
   have hlt:=bt hx
   unfold di aq
   rw [if_pos (by dsimp only;omega),Int.toNat_natCast]
   dsimp only
   rw [cY hx]) (by
   unfold di
   rw [if_neg (by dsimp only;omega)])
 have e:F6 (l,p)=_:=h.2
 unfold YZ aq
 rw [e]
 cases hx:l.findIdx? fun s=>rS (s,p) with
 |none=>rfl
 |some i=>
  dsimp only
  rw [if_pos (Int.natCast_nonneg i),Int.toNat_natCast]
theorem abR (l:List Smp) (hl:l.length<4611686018427387904) (p:P2):Gp (l,p)/\ Zm (l,p)=YZ (l,p):=by
 have gD: ∀j (hj:j<l.length),l.getD j zS=l[j]:=fun j hj=>by rw [List.getD_eq_getElem?_getD,List.getElem?_eq_getElem hj];rfl
 have key:TR (kz (l,p)) (qa (l,p)) 0 fun r=>(Sum.elim (fun a=>(a,true)) (fun _=>(zS,false)) r)=YZ (l,p):=by
  refine bg l.length (fun i s=>s=(i:Int)/\ ∀j,j<i->rS (l.getD j zS,p)=false) _ (fun i s hi hj=> ?_) (fun s hj=> ?_) ⟨rfl,fun j hj=>absurd hj (Nat.not_lt_zero _)⟩
  ·obtain ⟨e,hn⟩:=hj
   subst e
   refine ⟨?_,?_⟩
   ·unfold qa
    intro _
    dsimp only
    rw [Int.toNat_natCast]
    exact ⟨⟨by omega,by omega⟩,hi,hi,hi,fun _=>⟨⟨by omega,by omega⟩,hi,hi,hi,fun _=>⟨⟨by omega,by omega⟩,hi,hi⟩⟩⟩
   ·unfold kz
    dsimp only
    rw [if_pos (by omega),Int.toNat_natCast,lO hi hl]
    have no:rS (l.getD i zS,p)=false-> ∀j,j<i+1->rS (l.getD j zS,p)=false:=fun q j hj=>by
     rcases Nat.lt_or_ge j i with h|h
     ·exact hn j h
     ·rw [show j=i by omega];exact q
    by_cases c1:(l.getD i zS).1=p.1
    ·rw [if_pos (show ((l.getD i zS).1==p.1)=true by rw [c1];simp)]
     by_cases c2:(l.getD i zS).2.1=p.2
     ·rw [if_pos (show ((l.getD i zS).2.1==p.2)=true by rw [c2];simp)]
      refine .inr ⟨_,rfl,?_⟩
      have hx:l.findIdx? (fun s=>rS (s,p))=some i:=by
       rw [List.findIdx?_eq_some_iff_getElem]
       refine ⟨hi,by rw [<- gD i hi];exact (tR _ _).2 ⟨c1,c2⟩,fun j hj=> ?_⟩
       rw [<- gD j (by omega),hn j hj];decide
      rw [aej l hl p,hx]
      rfl
     ·rw [if_neg (show¬((l.getD i zS).2.1==p.2)=true by simpa using c2)]
      exact .inl ⟨_,rfl,rfl,no (Bool.eq_false_iff.2 fun q=>c2 ((tR _ _).1 q).2)⟩
    ·rw [if_neg (show¬((l.getD i zS).1==p.1)=true by simpa using c1)]
     exact .inl ⟨_,rfl,rfl,no (Bool.eq_false_iff.2 fun q=>c1 ((tR _ _).1 q).1)⟩
  ·obtain ⟨e,hn⟩:=hj
   subst e
   refine ⟨?_,.inr (),?_,?_⟩
   ·unfold qa
    intro q
    dsimp only at q;omega
   ·unfold kz
    dsimp only
    rw [if_neg (by omega)]
   ·have hx:l.findIdx? (fun s=>rS (s,p))=none:=by
     rw [List.findIdx?_eq_none_iff]
     intro t ht
     obtain ⟨j,hj,rfl⟩:=List.getElem_of_mem ht
     rw [<- gD j hj];exact hn j hj
    rw [aej l hl p,hx];rfl
 exact ⟨key.1,key.2⟩
theorem UI (m:rq) (a:GR) (hm:m.1.length<4611686018427387904) (hl:a.2.2.2.1.length<=1000) (FC:a.2.2.2.2.length<=1000):sw (m,a)/\ (vH (m,a)=true↔Fit m a):=by
 obtain ⟨t1,t2⟩:=Uk m hm
 obtain ⟨i1,i2⟩:=O7 a hl (by omega)
 unfold sw vH az aq
 dsimp only
 rw [t2]
 cases ht:uG m with
 |false=>
  rw [if_pos (by decide)]
  exact ⟨⟨t1,fun q=>absurd (by decide) q⟩,fun q=>(by cases q),fun f=>(by rw [f.GL] at ht;cases ht)⟩
 |true=>
  rw [if_neg (by decide)]
  cases hi:DW a with
  |false=>
   rw [if_pos (by decide)]
   exact ⟨⟨t1,fun _=>⟨i1,fun q=>absurd (by decide) q⟩⟩,fun q=>(by cases q),fun f=>(by rw [i2.2 f.atl] at hi;cases hi)⟩
  |true=>
   rw [if_neg (by decide)]
   have hA:=i2.1 hi
   obtain ⟨p1,p2⟩:=A1 a hA.rgt hl
   rw [p2]
   have hlen:=Ft hA.rgt.all
   have key:TR (iQ (m,a)) (mz (m,a)) (eO a.2.2.2.1,0) fun r=>(r= .inl ()/\ ¬Ins m a.2.2.2.1)\/ (r= .inr ()/\ Ins m a.2.2.2.1):=by
    refine bg (eO a.2.2.2.1).length (fun i s=>s=(eO a.2.2.2.1,(i:Int))/\ ∀j,j<i->Has m ((eO a.2.2.2.1).getD j 0)) _ (fun i s hi hj=> ?_) (fun s hj=> ?_) ⟨rfl,fun j hj=>absurd hj (Nat.not_lt_zero _)⟩
    ·obtain ⟨e,hn⟩:=hj
     subst e
     have hmem:=cq hi (0:Int)
     refine ⟨?_,?_⟩
     ·unfold mz
      intro _
      dsimp only
      rw [Int.toNat_natCast]
      exact ⟨⟨by omega,by omega⟩,hi,hi,fun _=>⟨⟨by omega,by omega⟩,hi,hi⟩⟩
     ·unfold iQ
      dsimp only
      rw [if_pos (by omega),Int.toNat_natCast,lO hi (by omega)]
      by_cases c1:(eO a.2.2.2.1).getD i 0<0
      ·rw [if_pos c1]
       exact .inr ⟨_,rfl,.inl ⟨rfl,fun q=>by have:=q _ hmem;omega⟩⟩
      ·rw [if_neg c1]
       by_cases c2:(eO a.2.2.2.1).getD i 0>=(m.2.2.2.length:Int)
       ·rw [if_pos c2]
        exact .inr ⟨_,rfl,.inl ⟨rfl,fun q=>by have:=q _ hmem;omega⟩⟩
       ·rw [if_neg c2]
        refine .inl ⟨_,rfl,rfl,fun j hj=> ?_⟩
        rcases Nat.lt_or_ge j i with h|h
        ·exact hn j h
        ·rw [show j=i by omega];exact ⟨by omega,by omega⟩
    ·obtain ⟨e,hn⟩:=hj
     subst e
     refine ⟨?_,.inr (),?_,.inr ⟨rfl,fun v hv=> ?_⟩⟩
     ·unfold mz
      intro q
      dsimp only at q;omega
     ·unfold iQ
      dsimp only
      rw [if_neg (by omega)]
     ·obtain ⟨j,hj,rfl⟩:=List.getElem_of_mem hv
      have:=hn j hj
      rwa [List.getD_eq_getElem?_getD,List.getElem?_eq_getElem hj] at this
   refine ⟨⟨t1,fun _=>⟨i1,fun _=>⟨p1,key.1⟩⟩⟩,?_⟩
   rcases key.2 with ⟨e,hI⟩|⟨e,hI⟩
   ·rw [e]
    exact ⟨fun q=>(by cases q),fun f=>absurd f.ins hI⟩
   ·rw [e]
    exact ⟨fun _=>⟨ht,hA,hI⟩,fun _=>rfl⟩
theorem ajZ {W H:Nat} (hw:pM (W:Int)) (hh:pM (H:Int)) {l:List T2} (hR:Rt W H l) {o:List Int} (hO:Own W H l o):o=owns W l (W*H):=by
 refine List.ext_getElem (by rw [hO.len,KW]) fun n h1 h2=> ?_
 have hn:n<W*H:=by rw [hO.len] at h1;exact h1
 have e1:=aeM hw hh hR hO hn
 have e2:=Ub W l hn
 rw [List.getD_eq_getElem?_getD,List.getElem?_eq_getElem h1] at e1
 rw [List.getD_eq_getElem?_getD,List.getElem?_eq_getElem h2] at e2
 exact (show o[n]=_ from e1).trans (show (owns W l (W*H))[n]=_ from e2).symm
section
variable {m:rq} {a:GR} {W H:Nat} {T:List T2} {at_:List Int} {o:List Int}
theorem X7 (hw:a.1=(W:Int)) (g:Gd m W H T at_ o) (y:Nat) (hy:y<H):
  TR (dB (m,a)) (fR (m,a)) (T,at_,o,o7 m W T at_ o (y*W),(y:Int),0) fun r=>r=(T,at_,o,o7 m W T at_ o ((y+1)*W),(y:Int)):=by
 obtain ⟨w1,w2⟩:=g.w
 obtain ⟨h1,h2⟩:=g.h
 have hm:W*H<=256*256:=Nat.mul_le_mul (by omega) (by omega)
 refine bg W (fun k s=>s=(T,at_,o,o7 m W T at_ o (y*W+k),(y:Int),(k:Int))) _ (fun k s hk hj=> ?_) (fun s hj=> ?_) rfl
 ·subst hj
  have hidx:=adY (W:=W) (H:=H) (by omega) (by omega) hk hy
  have hlt:=Ko hk hy
  have hlen:=g.own.len
  have hsl:=JD m W T at_ o (y*W+k)
  have hstep:aj ((k:Int)+1)=((k+1:Nat):Int):=by rw [ay (by omega) (by omega)];omega
  by_cases c:o.getD (y*W+k) 0<0
  ·have hs:o7 m W T at_ o (y*W+(k+1))=o7 m W T at_ o (y*W+k):=by
    rw [<- Nat.add_assoc,o7]
    unfold smp
    rw [if_pos c];simp
   refine ⟨?_,.inl ⟨_,?_,rfl⟩⟩
   ·unfold fR
    intro _
    dsimp only
    rw [hw,hidx,Int.toNat_natCast]
    exact ⟨by omega,by omega,by omega,fun q=>absurd q (by omega)⟩
   ·unfold dB
    dsimp only
    rw [hw,if_pos (by omega),hidx,Int.toNat_natCast,if_neg (by omega),hstep,hs]
  ·obtain ⟨g1,g2,g3,g4,g5,g6⟩:=g.at_ hlt c
   have hp:nO (m,at_.getD (o.getD (y*W+k) 0).toNat 0):=by
    obtain ⟨h1,h2,h3⟩:=Yq (MI g.GL g6)
    unfold Tr at h1 h2 h3
    unfold nO
    dsimp only at h1 h2 h3 ⊢
    omega
   have ep:zZ (m,at_.getD (o.getD (y*W+k) 0).toNat 0)=jh (m,at_.getD (o.getD (y*W+k) 0).toNat 0):=rfl
   obtain ⟨u1,u2⟩:=Ec ((k:Int),(y:Int),T.getD (o.getD (y*W+k) 0).toNat zT,jh (m,at_.getD (o.getD (y*W+k) 0).toNat 0))
   have hpt:iz ((k:Int),(y:Int),T.getD (o.getD (y*W+k) 0).toNat zT,jh (m,at_.getD (o.getD (y*W+k) 0).toNat 0))=lpt m W T at_ o (y*W+k):=by
    unfold lpt
    rw [rM hk,rN hk]
   have hs:o7 m W T at_ o (y*W+(k+1))=o7 m W T at_ o (y*W+k)++ [((k:Int),(y:Int),at_.getD (o.getD (y*W+k) 0).toNat 0,(lpt m W T at_ o (y*W+k)).1)]:=by
    rw [<- Nat.add_assoc,o7]
    unfold smp
    rw [if_neg c,rM hk,rN hk];rfl
   refine ⟨?_,.inl ⟨_,?_,rfl⟩⟩
   ·unfold fR az
    intro _
    dsimp only
    rw [hw,hidx,Int.toNat_natCast,ep]
    exact ⟨by omega,by omega,by omega,fun _=>⟨⟨g1,g4⟩,g2,g2,⟨g1,g5⟩,g3,g3,hp,u1,⟨g1,g5⟩,g3,g3,by omega⟩⟩
   ·unfold dB aq
    dsimp only
    rw [hw,if_pos (by omega),hidx,Int.toNat_natCast,if_pos (by omega),ep]
    rw [show oW ((k:Int),(y:Int),T.getD (o.getD (y*W+k) 0).toNat ((0,0),(0,0),0,0),jh (m,at_.getD (o.getD (y*W+k) 0).toNat 0))=_ from u2.trans hpt,hstep,hs]
 ·subst hj
  refine ⟨?_,_,?_,rfl⟩
  ·unfold fR
   intro q
   dsimp only at q;omega
  ·unfold dB
   dsimp only
   rw [hw,if_neg (by omega),show (y+1)*W=y*W+W by rw [Nat.add_mul,Nat.one_mul]]
theorem X8 (hw:a.1=(W:Int)) (hh:a.2.1=(H:Int)) (g:Gd m W H T at_ o):
  TR (fc (m,a)) (jk (m,a)) (T,at_,o,[],0) fun r=>r=o7 m W T at_ o (W*H):=by
 obtain ⟨h1,h2⟩:=g.h
 refine bg H (fun y s=>s=(T,at_,o,o7 m W T at_ o (y*W),(y:Int))) _ (fun y s hy hj=> ?_) (fun s hj=> ?_) (by rw [Nat.zero_mul];rfl)
 ·subst hj
  have key:=X7 hw g y hy
  refine ⟨?_,.inl ⟨_,?_,rfl⟩⟩
  ·unfold jk
   intro _
   exact key.1
  ·unfold fc aq
   dsimp only
   rw [hh,if_pos (by omega),key.2]
   dsimp only
   rw [lO hy (by omega)]
 ·subst hj
  refine ⟨?_,_,?_,rfl⟩
  ·unfold jk
   intro q
   dsimp only at q;omega
  ·unfold fc
   dsimp only
   rw [hh,if_neg (by omega),Nat.mul_comm W H]
end
theorem Lu (m:rq) (a:GR) (hm:m.1.length<4611686018427387904) (hl:a.2.2.2.1.length<=1000) (FC:a.2.2.2.2.length<=1000) (hp: ∀p∈a.2.2.2.1,p.1.length<=1000000):
  fM (m,a)/\ mC (m,a)/\ qQ (m,a)=fK (m,a)/\ (fK (m,a)).1.length<=65536:=by
 obtain ⟨l1,l2⟩:=Rv m a hl FC hp
 obtain ⟨f1,f2⟩:=UI m a hm hl FC
 refine ⟨l1,?_⟩
 unfold mC qQ az aq
 dsimp only
 rcases l2 with ⟨hn,e⟩|⟨hf,o,hO,e⟩
 ·have hb:vH (m,a)=false:=Bool.eq_false_iff.2 fun q=>hn (f2.1 q)
  rw [hb,e,if_pos (by decide)]
  exact ⟨⟨f1,fun q=>absurd (by decide) q⟩,rfl,by simp⟩
 ·have hb:vH (m,a)=true:=f2.2 hf
  rw [hb,e,if_neg (by decide)]
  have hA:=hf.atl
  have hwn:pM a.1:=hA.num.1
  have hhn:pM a.2.1:=hA.num.2.1
  have hw1:=hwn.1
  have hh1:=hhn.1
  have hw2:=hwn.2
  have hh2:=hhn.2
  have eW:((a.1.toNat:Nat):Int)=a.1:=by omega
  have eH:((a.2.1.toNat:Nat):Int)=a.2.1:=by omega
  obtain ⟨a1,a2⟩:=Xs a hl (by omega)
  obtain ⟨p1,p2⟩:=A1 a hA.rgt hl
  have hTl:=tH hA.rgt a.2.2.2.2 a.2.2.1 a.2.2.2.1.length (Nat.le_refl _)
  have eA:Cb a=(TT a,CB a.2.2.2.1 a.2.2.2.1.length,0):=by
   rcases a2 with ⟨q,_⟩|⟨_,q⟩
   ·exact absurd hA q
   ·exact q
  have hw':pM ((a.1.toNat:Nat):Int):=by rw [eW];exact hwn
  have IS:pM ((a.2.1.toNat:Nat):Int):=by rw [eH];exact hhn
  have hRt:=aga hA
  have ow:=afA hw' IS (TT a) (by unfold TT;omega) hRt
  rw [eW,eH] at ow
  have eo:=ajZ hw' IS hRt hO
  have key:=X8 (a:=a) eW.symm eH.symm (aiy hf hl hO)
  rw [eA,p2]
  dsimp only
  rw [ow.2]
  dsimp only
  rw [<- eo,key.2]
  have hle:=JD m a.1.toNat (TT a) (eO a.2.2.2.1) o (a.1.toNat*a.2.1.toNat)
  have hmm:a.1.toNat*a.2.1.toNat<=256*256:=Nat.mul_le_mul (by omega) (by omega)
  exact ⟨⟨f1,fun _=>⟨a1,p1,ow.1,key.1⟩⟩,rfl,by omega⟩
theorem UK (l:List Smp) (hl:l.length<4611686018427387904):sx (l,l)/\ Ed (l,l)=true:=by
 have key:TR (iR (l,l)) (mB (l,l)) 0 fun r=>r= .inr ():=by
  refine bg l.length (fun i s=>s=(i:Int)) _ (fun i s hi hj=> ?_) (fun s hj=> ?_) rfl
  ·subst hj
   refine ⟨?_,.inl ⟨_,?_,rfl⟩⟩
   ·unfold mB
    intro _
    dsimp only
    rw [Int.toNat_natCast]
    exact ⟨⟨by omega,by omega⟩,hi,hi,⟨by omega,by omega⟩,hi,hi⟩
   ·unfold iR
    dsimp only
    rw [if_pos (by omega),if_neg (by simp),lO hi hl]
  ·subst hj
   refine ⟨?_,_,?_,rfl⟩
   ·unfold mB
    intro q
    dsimp only at q;omega
   ·unfold iR
    dsimp only
    rw [if_neg (by omega)]
 unfold sx Ed aq
 dsimp only
 rw [if_neg (by simp),key.2]
 exact ⟨fun _=>key.1,rfl⟩
end Go.Proofs.YtfgdjlhilladhaaGreat
namespace Go.Proofs.YtfgdjlhilladhaaGreat
open Go Go.Ev Go.Proofs
theorem Dj (x:Int×(Int×T2×(P3×P3×P3)×rq×GR×List Smp)):oJ x/\ Dg x=true:=by
 obtain ⟨x,y,t,s,m,a,l⟩:=x
 obtain ⟨f1,f2⟩:=aay m a
 have f0: ¬((!true)=true):=by decide
 cases hf:Oi (m,a) with
 |false=>
  unfold oJ Dg
  dsimp only
  rw [xY,hf,if_pos (by decide)]
  exact ⟨⟨f1,AE fun q=>absurd (by decide) q⟩,rfl⟩
 |true=>
 by_cases n60:((l.length:Nat):Int)>60
 ·unfold oJ Dg
  dsimp only
  rw [xY,hf,if_neg f0,if_pos n60]
  exact ⟨⟨f1,AE fun _ q=>absurd n60 q⟩,rfl⟩
 have hF:=f2 hf
 obtain ⟨m1,m2,m3,m4⟩:=hF.anI
 obtain ⟨s1,s2⟩:=hF.sml
 have hr:=hF.ama
 have o1:Gs m:=⟨by omega,by omega,by omega,by omega⟩
 have o2:UO m=m:=by
  unfold UO
  simp only [List.nil_append]
 obtain ⟨p1,p2⟩:=Xu a hF.sml (by omega)
 have c1:=A2 x y
 obtain ⟨q1,q2⟩:=Ec (x,y,t,s)
 have q0:=zJ (x,y,t,s)
 obtain ⟨u1,u2,u3,u4⟩:=Lu m a (by omega) (by omega) (by omega) (fun p hp=>by have:=(s2 p hp).1;omega)
 obtain ⟨a1,a2⟩:=abR l (by omega) (x,y)
 have a0:=(Y0 l (by omega) (x,y)).1
 have t1:=aaX false
 have t2:=WR false
 obtain ⟨e1,e2⟩:=XR (m:=m) (by omega) (by omega) (by omega) (by omega)
 obtain ⟨e3,e4⟩:=R4 a hF.sml (by omega)
 obtain ⟨e5,e6⟩:=UK (fK (m,a)).1 (by omega)
 generalize hS:fK (m,a)=S at*
 generalize hC:jO (x,y)=C at*
 generalize hP:iz (x,y,t,s)=P at*
 generalize hA:YZ (l,x,y)=A at*
 refine ⟨?_,?_⟩
 ·unfold oJ
  dsimp only
  refine ⟨f1,AE fun _ _=>⟨o1,AE ?_⟩⟩
  rw [o2]
  refine ⟨p1,AE ?_⟩
  rw [p2]
  refine AE (AE ⟨q0,AE ⟨q1,AE ⟨u1,AE ?_⟩⟩⟩)
  rw [hS]
  refine ⟨u2,AE ?_⟩
  rw [u3]
  refine ⟨a0,AE ⟨a1,AE ⟨t1,AE fun _ _ _ _ _=>⟨e5,AE fun _ _ _ _=>⟨e1,AE fun _=>e3⟩⟩⟩⟩⟩
 ·unfold Dg
  dsimp only
  rw [xY,hf,if_neg f0,if_neg n60,xY,o2,xY,p2,xY,hC,xY,c1,xY,hP,xY,q2,xY,hS,xY,u3,xY,hA,xY,a2,xY,t2,if_pos rfl,if_pos (by simp),if_pos (by simp),if_pos (by simp),if_pos (by simp),xY,e6,if_pos rfl,if_pos (by simp),if_pos (by simp),if_pos (by simp),xY,e2,if_pos rfl,xY,e4]
end Go.Proofs.YtfgdjlhilladhaaGreat
