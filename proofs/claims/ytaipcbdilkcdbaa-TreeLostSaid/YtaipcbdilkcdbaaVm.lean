/- Plain laws: limewashlaw21.TreeLost. -/
import Derived.Test.YtaipcbdilkcdbaaVi
import Derived.Test.YtaipcbdilkcdbaaUf
noncomputable section
set_option linter.unusedSectionVars false
set_option linter.unusedVariables false
set_option linter.unusedSimpArgs false
namespace Go.Proofs.Ytaipcbdilkcdbaa
open Go Go.Ev Go.Proofs
theorem lJ {α β:Type} (v:α) (f:α->β):ai v f=f v:=rfl
theorem Pv (l:List qQ) (hl:l.length<=10000) (ht: ∀k,k<l.length->(l.getD k zB).2.2.2.length<=1000):Bw l/\ pB l=l:=by
 have key:TR (jS l) (n9 l) ([],0) fun r=>r=l:=by
  refine fU l.length (fun i s=>s=(l.take i,(i:Int))) _ (fun i s hi hJ=> ?_) (fun s hJ=> ?_) rfl
  ·subst hJ
   have q:(0<=(i:Int))/\ (i:Int)<(l.length:Int):=⟨by omega,by omega⟩
   have ht:=ht i hi
   refine ⟨?_,.inl ⟨_,?_,rfl⟩⟩
   ·unfold n9 ay Bv
    dsimp only
    rw [Int.toNat_natCast,List.length_take]
    exact fun _=>⟨q,hi,hi,hi,q,hi,hi,hi,q,hi,hi,hi,q,hi,hi,hi,(show 0+(l.getD i zB).2.2.2.length<1099511627776 by omega),by omega⟩
   ·unfold jS ai
    dsimp only
    rw [if_pos (by omega),Int.toNat_natCast,CB hi (by omega),gG hi zB]
    rfl
  ·subst hJ
   refine ⟨?_,_,?_,rfl⟩
   ·unfold n9
    dsimp only
    intro q;omega
   ·unfold jS
    dsimp only
    rw [if_neg (by omega),List.take_length]
 exact ⟨key.1,key.2⟩
theorem Pm (l:List qQ):vU (((yi.prod (yi.prod yi)).prod (yi.prod (yi.prod yi))).prod (yi.prod (yi.prod yi.sl))) l=(l.flatMap fun b=>b.2.2.2).map (Value.int .i64):=by
 induction l with
 |nil=>rfl
 |cons b l ih=>
  have e:vU (((yi.prod (yi.prod yi)).prod (yi.prod (yi.prod yi))).prod (yi.prod (yi.prod yi.sl))) (b::l)=((b.2.2.2.flatMap fun i=> [Value.int .i64 i])++ [])++vU (((yi.prod (yi.prod yi)).prod (yi.prod (yi.prod yi))).prod (yi.prod (yi.prod yi.sl))) l:=rfl
  rw [e,ih,List.append_nil,List.flatMap_cons,List.map_append,List.map_eq_flatMap (l:=b.2.2.2)]
theorem Jv {l:List qQ} (h:(l.flatMap fun b=>b.2.2.2).Nodup):List.Nodup (vU (((yi.prod (yi.prod yi)).prod (yi.prod (yi.prod yi))).prod (yi.prod (yi.prod yi.sl))) l):=by
 rw [Pm,List.nodup_iff_pairwise_ne,List.pairwise_map]
 exact (List.nodup_iff_pairwise_ne.1 h).imp fun h e=>h (by injection e)
theorem Px {G H:List qQ} (hl:H.length=G.length)
  (h1: ∀j,(H.getD j ((((0:Int),((0:Int),(0:Int))),((0:Int),((0:Int),(0:Int)))),((0:Int),((0:Int),([]:List Int))))).2.1=(G.getD j ((((0:Int),((0:Int),(0:Int))),((0:Int),((0:Int),(0:Int)))),((0:Int),((0:Int),([]:List Int))))).2.1)
  (h2: ∀j,(H.getD j ((((0:Int),((0:Int),(0:Int))),((0:Int),((0:Int),(0:Int)))),((0:Int),((0:Int),([]:List Int))))).2.2.1=(G.getD j ((((0:Int),((0:Int),(0:Int))),((0:Int),((0:Int),(0:Int)))),((0:Int),((0:Int),([]:List Int))))).2.2.1)
  (h3: ∀j,(H.getD j ((((0:Int),((0:Int),(0:Int))),((0:Int),((0:Int),(0:Int)))),((0:Int),((0:Int),([]:List Int))))).2.2.2.length=(G.getD j ((((0:Int),((0:Int),(0:Int))),((0:Int),((0:Int),(0:Int)))),((0:Int),((0:Int),([]:List Int))))).2.2.2.length):
  (cM G->cM H)/\ fy H=fy G:=by
 have h4: ∀j i,iR (H.getD j ((((0:Int),((0:Int),(0:Int))),((0:Int),((0:Int),(0:Int)))),((0:Int),((0:Int),([]:List Int)))),i)=iR (G.getD j ((((0:Int),((0:Int),(0:Int))),((0:Int),((0:Int),(0:Int)))),((0:Int),((0:Int),([]:List Int)))),i):=fun j i=>by
  rw [Bool.eq_iff_iff,jt,jt,h1,h2]
 have s1:aU H=aU G:=by
  funext s
  unfold aU
  simp only [h1,h2,h3,h4,hl]
 have s2:bw H=bw G:=by
  funext s
  unfold bw
  simp only [h1,h2,h3,h4,hl]
 refine ⟨fun h=> ?_,?_⟩
 ·unfold cM at h ⊢
  rw [s1,s2,hl];exact h
 ·unfold fy
  rw [s1,hl]
section
variable {L:List T3} {H:List qQ} {up:List Int} (Nw:up.length=H.length) (zz: ∀k,k<H.length-> -1<=up.getD k 0/\ up.getD k 0<(k:Int))
include Nw zz
theorem Lz (sn:List Bool) (a b c d:Int) (ls:List Int) {i:Int} (hin:0<=i/\ i<(L.length:Int)):
  ∀n k:Nat,k<n->k<H.length->
  TR (eP (H,L)) (ia (H,L)) (up,(sn,(a,(i,((k:Int),(b,(ls,(c,d)))))))) fun r=>r= .inl ()\/ r= .inr (up,(sn,(a,(b,(ls,(c,d)))))):=by
 intro n
 induction n with
 |zero=>intro k hk;omega
 |succ n ih=>
  intro k hkn hk
  obtain ⟨n1,_⟩:=Gm (H.getD k zB) (k:Int) (L.getD i.toNat zT)
  have hu:=zz k hk
  have hpre:ia (H,L) (up,(sn,(a,(i,((k:Int),(b,(ls,(c,d)))))))):=by
   unfold ia ay
   intro _
   dsimp only
   rw [Int.toNat_natCast]
   exact ⟨by omega,hk,hk,hin,by omega,by omega,n1,fun _=>⟨by omega,by omega,by omega⟩⟩
  cases hb:IM ((H.getD k ((((0:Int),((0:Int),(0:Int))),((0:Int),((0:Int),(0:Int)))),((0:Int),((0:Int),([]:List Int)))),(k:Int)),L.getD i.toNat (((0:Int),((0:Int),(0:Int))),(((0:Int),((0:Int),(0:Int))),((0:Int),((0:Int),(0:Int)))))) with
  |false=>
   refine TR.stop (r:= .inl ()) hpre ?_ (.inl rfl)
   unfold eP ai
   dsimp only
   rw [if_pos (by omega),Int.toNat_natCast,hb,if_pos (by decide)]
  |true=>
   refine TR.go (s':=(up,(sn,(a,(i,(up.getD k 0,(b,(ls,(c,d))))))))) hpre ?_ ?_
   ·unfold eP ai
    dsimp only
    rw [if_pos (by omega),Int.toNat_natCast,hb,if_neg (by decide)]
   ·by_cases e0:up.getD k 0<0
    ·refine TR.stop (r:= .inr (up,(sn,(a,(b,(ls,(c,d))))))) ?_ ?_ (.inr rfl)
     ·unfold ia
      intro q
      dsimp only at q;omega
     ·unfold eP
      dsimp only
      rw [if_neg (by omega)]
    ·obtain ⟨j,hj⟩: ∃j:Nat,up.getD k 0=(j:Int):=⟨(up.getD k 0).toNat,by omega⟩
     rw [hj] at hu ⊢
     exact ih j (by omega) (by omega)
def Wn (L:List T3) (S:List Int) (sn:List Bool):Prop:=sn.length=L.length/\ ∀j:Nat,sn.getD j false=true->(j:Int)∈S
theorem NG {k:Nat} (hk:k<H.length) {S:List Int} (hlen:(H.getD k zB).2.2.2.length<=1000) {sn:List Bool} (Y3:Wn L S sn):
  TR (c8 (H,L)) (fb (H,L)) (up,(sn,((k:Int),((k:Int),((H.getD k zB).2.2.2,((((H.getD k zB).2.2.2.length:Nat):Int),0)))))) fun r=>r= .inl ()\/ ∃s7,r= .inr (up,(s7,(k:Int)))/\ Wn L (S++(H.getD k zB).2.2.2) s7:=by
 generalize hT:(H.getD k zB).2.2.2=T at*
 refine fU T.length (fun j s=> ∃s7,s=(up,(s7,((k:Int),((k:Int),(T,(((T.length:Nat):Int),(j:Int)))))))/\ Wn L (S++T.take j) s7) _ (fun j s hj hJ=> ?_) (fun s hJ=> ?_) ⟨sn,rfl,by simpa using Y3⟩
 ·obtain ⟨s7,rfl,hl,hm⟩:=hJ
  generalize hp:T.getD j 0=p at*
  by_cases c1:p<0
  ·refine ⟨?_,.inr ⟨.inl (),?_,.inl rfl⟩⟩
   ·unfold fb ay
    intro _
    dsimp only
    rw [Int.toNat_natCast,hp]
    exact ⟨by omega,hj,hj,fun q=>absurd c1 q⟩
   ·unfold c8 ai
    dsimp only
    rw [if_pos (by omega),Int.toNat_natCast,hp,if_pos c1]
  by_cases c2:p>=((L.length:Nat):Int)
  ·refine ⟨?_,.inr ⟨.inl (),?_,.inl rfl⟩⟩
   ·unfold fb ay
    intro _
    dsimp only
    rw [Int.toNat_natCast,hp]
    exact ⟨by omega,hj,hj,fun _ q=>absurd c2 q⟩
   ·unfold c8 ai
    dsimp only
    rw [if_pos (by omega),Int.toNat_natCast,hp,if_neg c1,if_pos c2]
  have Wv:p.toNat<L.length:=by omega
  have Nu:((p.toNat:Nat):Int)=p:=by omega
  have hchain:=Lz (L:=L) Nw zz (s7.set p.toNat true) (k:Int) (k:Int) ((T.length:Nat):Int) (j:Int) T (i:=p) ⟨by omega,by omega⟩ (k+1) k (by omega) hk
  have hpre:fb (H,L) (up,(s7,((k:Int),((k:Int),(T,(((T.length:Nat):Int),(j:Int))))))):=by
   unfold fb ay
   intro _
   dsimp only
   rw [Int.toNat_natCast,hp]
   exact ⟨by omega,hj,hj,fun _ _=>⟨by omega,by omega,by omega,fun _=>⟨by omega,by omega,by omega,hchain.1⟩⟩⟩
  refine ⟨hpre,?_⟩
  by_cases c3:s7.getD p.toNat false=true
  ·refine .inr ⟨.inl (),?_,.inl rfl⟩
   unfold c8 ai
   dsimp only
   rw [if_pos (by omega),Int.toNat_natCast,hp,if_neg c1,if_neg c2,if_pos c3]
  rcases hchain.2 with e|e
  ·refine .inr ⟨.inl (),?_,.inl rfl⟩
   unfold c8 ai
   dsimp only
   rw [if_pos (by omega),Int.toNat_natCast,hp,if_neg c1,if_neg c2,if_neg c3,e]
   rfl
  ·refine .inl ⟨(up,(s7.set p.toNat true,((k:Int),((k:Int),(T,(((T.length:Nat):Int),((j+1:Nat):Int))))))),?_,_,rfl,by simp [hl],fun q hq=> ?_⟩
   ·unfold c8 ai
    dsimp only
    rw [if_pos (by omega),Int.toNat_natCast,hp,if_neg c1,if_neg c2,if_neg c3,e]
    show Sum.inl (up,(s7.set p.toNat true,((k:Int),((k:Int),(T,(((T.length:Nat):Int),ae ((j:Int)+1)))))))=_
    rw [CB hj (by omega)]
   ·rw [dL _ _ _ _ _ (by omega)] at hq
    rw [gG hj 0,hp,<- List.append_assoc]
    by_cases e:p.toNat=q
    ·subst e
     exact List.mem_append.2 (.inr (by rw [Nu];exact List.mem_singleton.2 rfl))
    ·rw [if_neg e] at hq
     exact List.mem_append.2 (.inl (hm q hq))
 ·obtain ⟨s7,rfl,hJ⟩:=hJ
  rw [List.take_length] at hJ
  refine ⟨?_,_,?_,.inr ⟨s7,rfl,hJ⟩⟩
  ·unfold fb
   intro q
   dsimp only at q;omega
  ·unfold c8
   dsimp only
   rw [if_neg (by omega)]
theorem Q0 (hH:H.length<=10000) (hT: ∀k,k<H.length->(H.getD k zB).2.2.2.length<=1000):
  TR (dR (H,L)) (hO (H,L)) (up,(List.replicate L.length false,0)) fun r=>r= .inl ()\/ ∃sn,r= .inr sn/\ Wn L (H.flatMap fun b=>b.2.2.2) sn:=by
 refine fU H.length (fun i s=> ∃sn,s=(up,(sn,(i:Int)))/\ Wn L ((H.take i).flatMap fun b=>b.2.2.2) sn) _ (fun i s hk hJ=> ?_) (fun s hJ=> ?_) ⟨_,rfl,by simp,fun j hj=> ?_⟩
 ·obtain ⟨sn,rfl,hS⟩:=hJ
  have key:=NG Nw zz hk (hT i hk) hS
  have hpre:hO (H,L) (up,(sn,(i:Int))):=by
   unfold hO
   intro _
   dsimp only
   rw [Int.toNat_natCast]
   exact ⟨by omega,hk,hk,key.1⟩
  refine ⟨hpre,?_⟩
  rcases key.2 with e|⟨s7,e,Vl⟩
  ·refine .inr ⟨.inl (),?_,.inl rfl⟩
   unfold dR ai
   dsimp only
   rw [if_pos (by omega),Int.toNat_natCast]
   exact congrArg (fun r=>Sum.elim (fun a=>Sum.inr (Sum.inl ())) (fun b=>Sum.inl (b.1,(b.2.1,(ae (b.2.2+(1:Int)))))) r) e
  ·refine .inl ⟨(up,(s7,((i+1:Nat):Int))),?_,s7,rfl,?_⟩
   ·unfold dR ai
    dsimp only
    rw [if_pos (by omega),Int.toNat_natCast]
    refine Eq.trans (congrArg (fun r=>Sum.elim (fun a=>Sum.inr (Sum.inl ())) (fun b=>Sum.inl (b.1,(b.2.1,(ae (b.2.2+(1:Int)))))) r) e) ?_
    show Sum.inl (up,(s7,ae ((i:Int)+1)))=_
    rw [CB hk (by omega)]
   ·rw [gG hk zB]
    simpa using Vl
 ·obtain ⟨sn,rfl,hS⟩:=hJ
  rw [List.take_length] at hS
  refine ⟨?_,.inr sn,?_,.inr ⟨sn,rfl,hS⟩⟩
  ·unfold hO
   intro q
   dsimp only at q;omega
  ·unfold dR
   dsimp only
   rw [if_neg (by omega)]
 ·rw [List.getD_eq_getElem?_getD,List.getElem?_replicate] at hj
  split at hj<;>cases hj
theorem Q5 (hL:L.length<=1000) (hH:H.length<=10000) (hT: ∀k,k<H.length->(H.getD k zB).2.2.2.length<=1000) (p1:cM H) (p2:fy H=(up,true)) (hno: ∃j:Nat,j<L.length/\ ¬(j:Int)∈H.flatMap fun b=>b.2.2.2):fN (H,L)/\ E6 (H,L)=false:=by
 have key:=Q0 (L:=L) Nw zz hH hT
 unfold fN E6 ay ai
 dsimp only
 rw [p2]
 dsimp only
 rw [if_neg (by decide)]
 rcases key.2 with e|⟨sn,e,hl,hm⟩
 ·rw [e]
  exact ⟨⟨p1,fun _=>⟨⟨by omega,by omega⟩,key.1,trivial⟩⟩,rfl⟩
 ·obtain ⟨c1,c2⟩:=tu sn (by omega) false
  rw [e]
  refine ⟨⟨p1,fun _=>⟨⟨by omega,by omega⟩,key.1,c1⟩⟩,?_⟩
  show (!jr (sn,false))=false
  obtain ⟨j,hj,hn⟩:=hno
  have hf:sn.getD j false=false:=by
   cases hb:sn.getD j false with
   |false=>rfl
   |true=>exact absurd (hm j hb) hn
  rw [c2.2 (by rw [<- hf];exact sG (by omega) false)];rfl
end
section
variable {L:List T3} {pl:List Int} {G:List qQ} {N:List (List Int)} {U:List Int} (h:ye L 0 (-1) pl G N U)
include h
theorem NV (hG:G.length<=10000) {m:Nat} (hm:0<m) (Z8:G.length=m+1) (Io:List Int) (XL:Io.length=m):
  TR (aU (G.take m)) (bw (G.take m)) (Io,0) fun r=>r= .inl ():=by
 obtain ⟨j,j1,j2,_,j4⟩:=h.Io (k:=m) hm (by omega)
 have hlen:(G.take m).length=m:=by rw [List.length_take];omega
 have uo: ∀k,k<m->(G.take m).getD k zB=G.getD k zB:=fun k hk=>by
  rw [List.getD_eq_getElem?_getD,List.getElem?_take,if_pos hk,List.getD_eq_getElem?_getD]
 generalize hC:G.take m=C at*
 have E4: ∀(i:Nat) (up:List Int),i<m->up.length=m->i<=j->bw C (up,(i:Int))/\ ((∃up',aU C (up,(i:Int))= .inl (up',((i+1:Nat):Int))/\ up'.length=m/\ i≠j)\/ aU C (up,(i:Int))= .inr (.inl ())):=fun i up hi Vq hij=>by
  have hc:ae (((i:Nat):Int)+1)=((i+1:Nat):Int):=CB hi (by omega)
  have hg:=uo i hi
  rcases h.Dq (k:=i) (by omega) with ⟨a1,a2,a3,a4⟩|⟨r,a1,a2,a3,a4,a5,a6,a7,a8⟩
  ·have jK:iR (C.getD i ((((0:Int),((0:Int),(0:Int))),((0:Int),((0:Int),(0:Int)))),((0:Int),((0:Int),([]:List Int)))),(i:Int))=true:=by
    refine (jt (C.getD i zB) _).2 ?_
    rw [hg];exact ⟨a1,a2⟩
   have Ua:i≠j:=by
    rintro rfl
    rw [a1,a2] at j4
    rcases j4 with e|e<;>omega
   refine ⟨?_,.inl ⟨up,?_,Vq,Ua⟩⟩
   ·unfold bw ay
    intro _
    dsimp only
    rw [Int.toNat_natCast,jK]
    exact ⟨by omega,by omega,by omega,fun q=>absurd rfl q⟩
   ·unfold aU ai
    dsimp only
    rw [if_pos (by omega),Int.toNat_natCast,jK,if_pos rfl,hc]
  ·have jK:iR (C.getD i ((((0:Int),((0:Int),(0:Int))),((0:Int),((0:Int),(0:Int)))),((0:Int),((0:Int),([]:List Int)))),(i:Int))=false:=by
    cases e:iR (C.getD i ((((0:Int),((0:Int),(0:Int))),((0:Int),((0:Int),(0:Int)))),((0:Int),((0:Int),([]:List Int)))),(i:Int)) with
    |false=>rfl
    |true=>
     have:=((jt (C.getD i zB) _).1 e).1
     rw [hg,a1] at this;omega
   have b1:(C.getD i ((((0:Int),((0:Int),(0:Int))),((0:Int),((0:Int),(0:Int)))),((0:Int),((0:Int),([]:List Int))))).2.1=((i+1:Nat):Int):=by rw [<- a1,<- hg]
   have b2:(C.getD i ((((0:Int),((0:Int),(0:Int))),((0:Int),((0:Int),(0:Int)))),((0:Int),((0:Int),([]:List Int))))).2.2.1=(r:Int):=by rw [<- a2,<- hg]
   have b5:(C.getD i ((((0:Int),((0:Int),(0:Int))),((0:Int),((0:Int),(0:Int)))),((0:Int),((0:Int),([]:List Int))))).2.2.2= []:=(congrArg (fun b:qQ=>b.2.2.2) hg).trans a5
   have hls:(up.set (i+1) (i:Int)).length=up.length:=List.length_set
   have hpre:bw C (up,(i:Int)):=by
    unfold bw ay
    intro _
    dsimp only
    rw [Int.toNat_natCast,jK,b1,b2,b5,Int.toNat_natCast,Int.toNat_natCast]
    exact ⟨by omega,by omega,by omega,fun _ _ _ _ q=>⟨by omega,by omega,by omega,fun _=>⟨by omega,by omega,by omega,fun _=>⟨by omega,by omega,by omega,by omega,by omega,by omega⟩⟩⟩⟩
   refine ⟨hpre,?_⟩
   have f0: ¬((false:Bool)=true):=by decide
   have f1: ¬((((([]:List Int).length:Nat):Int))>0):=by decide
   have f2: ¬((((i+1:Nat):Int) !=((i+1:Nat):Int))=true):=by simp
   have f3: ¬((r:Int)<=((i+1:Nat):Int)):=by omega
   by_cases c1:(r:Int)>=((C.length:Nat):Int)
   ·right
    unfold aU ai
    dsimp only
    rw [if_pos (by omega),Int.toNat_natCast,jK,b1,b2,b5,hc,if_neg f0,if_neg f1,if_neg f2,if_neg f3,if_pos c1]
   have Ua:i≠j:=by
    rintro rfl
    rw [a1,a2] at j4
    rcases j4 with e|e<;>omega
   by_cases c2:up.getD (i+1) 0>=0
   ·right
    unfold aU ai
    dsimp only
    rw [if_pos (by omega),Int.toNat_natCast,jK,b1,b2,b5,hc,Int.toNat_natCast,if_neg f0,if_neg f1,if_neg f2,if_neg f3,if_neg c1,if_pos c2]
   by_cases c3:up.getD r 0>=0
   ·right
    unfold aU ai
    dsimp only
    rw [if_pos (by omega),Int.toNat_natCast,jK,b1,b2,b5,hc,Int.toNat_natCast,Int.toNat_natCast,if_neg f0,if_neg f1,if_neg f2,if_neg f3,if_neg c1,if_neg c2,if_pos c3]
   ·refine .inl ⟨(up.set (i+1) (i:Int)).set r (i:Int),?_,by simp [Vq],Ua⟩
    unfold aU ai
    dsimp only
    rw [if_pos (by omega),Int.toNat_natCast,jK,b1,b2,b5,hc,Int.toNat_natCast,Int.toNat_natCast,if_neg f0,if_neg f1,if_neg f2,if_neg f3,if_neg c1,if_neg c2,if_neg c3]
 refine fU j (fun i s=> ∃up,s=(up,(i:Int))/\ up.length=m) _ (fun i s hi hJ=> ?_) (fun s hJ=> ?_) ⟨Io,rfl,XL⟩
 ·obtain ⟨up,rfl,Vq⟩:=hJ
  obtain ⟨r1,⟨up',r2,r3,_⟩|r2⟩:=E4 i up (by omega) Vq (by omega)
  ·exact ⟨r1,.inl ⟨_,r2,up',rfl,r3⟩⟩
  ·exact ⟨r1,.inr ⟨_,r2,rfl⟩⟩
 ·obtain ⟨up,rfl,Vq⟩:=hJ
  obtain ⟨r1,⟨up',r2,r3,r4⟩|r2⟩:=E4 j up (by omega) Vq (by omega)
  ·exact absurd rfl r4
  ·exact ⟨r1,_,r2,rfl⟩
theorem Re (hG:G.length<=10000) {m:Nat} (hm:0<m) (Z8:G.length=m+1) (M:List T3):fN (G.take m,M)/\ E6 (G.take m,M)=false:=by
 have hlen:(G.take m).length=m:=by rw [List.length_take];omega
 obtain ⟨r1,r2⟩:=uI (-1) (n:=m) (by omega)
 have key:=NV h hG hm Z8 (List.replicate m (-1)) List.length_replicate
 have e1:cM (G.take m)/\ fy (G.take m)=([],false):=by
  unfold cM fy ay ai
  rw [hlen,r2]
  dsimp only
  rw [key.2]
  exact ⟨⟨r1,key.1,trivial⟩,rfl⟩
 unfold fN E6 ay ai
 dsimp only
 rw [e1.2]
 exact ⟨⟨e1.1,fun q=>absurd rfl q⟩,rfl⟩
end
theorem yK (x:List T3×Int):eS x/\ mz x=true:=by
 obtain ⟨L,i⟩:=x
 obtain ⟨g1,g2⟩:=Ma false
 by_cases n1:((L.length:Nat):Int)>20
 ·unfold eS mz
  dsimp only
  rw [if_pos n1];exact ⟨fun q=>absurd n1 q,rfl⟩
 by_cases n2:((L.length:Nat):Int)<2
 ·unfold eS mz
  dsimp only
  rw [if_neg n1,if_pos n2];exact ⟨fun _ q=>absurd n2 q,rfl⟩
 obtain ⟨s1,s2⟩:=Aq L (by omega)
 rcases s2 with ⟨_,e⟩|⟨hS,G,N,U,e,hG,ht⟩
 ·refine ⟨?_,?_⟩
  ·unfold eS ay
   dsimp only
   rw [e]
   exact fun _ _=>⟨s1,fun _=>g1,fun q=>absurd (by decide) q⟩
  ·unfold mz
   dsimp only
   rw [if_neg n1,if_neg n2,lJ,e,if_pos (by decide),lJ]
   exact g2
 have hf:=ht.facts
 have hi:Ae L (zG L.length):=fun i h=>(wE _ _).1 h
 have hl:=wD L.length
 have nE:=DY L.length
 obtain ⟨i1,i2⟩:=Ky ht hi hS (by omega) (by omega) (by omega) nE (fun j hj=>(wE _ _).2 ⟨by omega,by omega⟩)
 have E0:(G.flatMap fun b=>b.2.2.2).Nodup:=hf.Nm.nodup_iff.2 nE
 have hT: ∀k,k<G.length->(G.getD k zB).2.2.2.length<=2:=fun k hk=>by
  rcases hf.Dq hk with ⟨_,_,a3,a4⟩|⟨_,_,_,_,_,a5,_⟩
  ·rw [a3];exact a4
  ·rw [a5];exact Nat.zero_le _
 obtain ⟨o1,o2⟩:=Pv G (by omega) (fun k hk=>by have:=hT k hk;omega)
 have z0: ¬(((0:Int) !=0)=true):=by decide
 by_cases n3:i<0
 ·refine ⟨?_,?_⟩
  ·unfold eS ay
   dsimp only
   rw [e]
   exact fun _ _=>⟨s1,fun q=>absurd q z0,fun _=>⟨fun _=>g1,fun q=>absurd n3 q⟩⟩
  ·unfold mz
   dsimp only
   rw [if_neg n1,if_neg n2,lJ,e,if_neg z0,if_pos n3,lJ]
   exact g2
 by_cases n4:i>=((G.length:Nat):Int)
 ·refine ⟨?_,?_⟩
  ·unfold eS ay
   dsimp only
   rw [e]
   exact fun _ _=>⟨s1,fun q=>absurd q z0,fun _=>⟨fun q=>absurd q n3,fun _=>⟨fun _=>g1,fun q=>absurd n4 q⟩⟩⟩
  ·unfold mz
   dsimp only
   rw [if_neg n1,if_neg n2,lJ,e,if_neg z0,if_neg n3,if_pos n4,lJ]
   exact g2
 obtain ⟨k,rfl⟩: ∃k:Nat,i=(k:Int):=⟨i.toNat,by omega⟩
 have hk:k<G.length:=by omega
 have qk:(0<=(k:Int))/\ (k:Int)<(G.length:Int):=⟨by omega,by omega⟩
 by_cases n5:(((G.getD k zB).2.2.2.length:Nat):Int)>0
 ·
  obtain ⟨p,T',hp⟩: ∃p T',(G.getD k zB).2.2.2=p::T':=List.exists_cons_of_length_pos (by omega)
  have hmem:p∈G.flatMap fun b=>b.2.2.2:=List.mem_flatMap.2 ⟨G.getD k zB,sG hk zB,by rw [hp];exact List.mem_cons_self⟩
  have hpr:=(wE _ _).1 (hf.Nm.mem_iff.1 hmem)
  obtain ⟨v,hv⟩: ∃v,v=Int.tmod (ae (p+1)) ((L.length:Nat):Int):=⟨_,rfl⟩
  have Zb:v≠p:=by
   rw [hv,cC (by omega) (by omega),Int.tmod_eq_emod_of_nonneg (by omega)]
   by_cases c:p+1=((L.length:Nat):Int)
   ·rw [c,Int.emod_self];omega
   ·rw [Int.emod_eq_of_lt (by omega) (by omega)];omega
  obtain ⟨H,hH⟩: ∃H,H=G.set k ((G.getD k zB).1,((G.getD k zB).2.1,((G.getD k zB).2.2.1,v::T'))):=⟨_,rfl⟩
  have hHl:H.length=G.length:=by rw [hH,List.length_set]
  have Xv: ∀j,H.getD j zB=if k=j then ((G.getD k zB).1,((G.getD k zB).2.1,((G.getD k zB).2.2.1,v::T'))) else G.getD j zB:=fun j=>by
   rw [hH,dL _ _ _ _ _ hk]
  obtain ⟨p1,up,p2,Nw,zz⟩:=yP hf (by omega)
  obtain ⟨c1,c2⟩:=Px (G:=G) (H:=H) hHl (fun j=>by
   show (H.getD j zB).2.1=(G.getD j zB).2.1
   rw [Xv];split
   ·rename_i c;rw [<- c]
   ·rfl) (fun j=>by
   show (H.getD j zB).2.2.1=(G.getD j zB).2.2.1
   rw [Xv];split
   ·rename_i c;rw [<- c]
   ·rfl) (fun j=>by
   show (H.getD j zB).2.2.2.length=(G.getD j zB).2.2.2.length
   rw [Xv];split
   ·rename_i c;rw [<- c,hp];rfl
   ·rfl)
  have A6:G=G.take k++G.getD k zB::G.drop (k+1):=by
   have h1:=List.take_append_drop (k+1) G
   rw [gG hk zB,List.append_assoc] at h1
   exact h1.symm
  have hHs:H=G.take k++((G.getD k zB).1,((G.getD k zB).2.1,((G.getD k zB).2.2.1,v::T')))::G.drop (k+1):=by
   rw [hH]
   have h2:=z7 (G.take k) (G.drop (k+1)) (G.getD k zB) ((G.getD k zB).1,((G.getD k zB).2.1,((G.getD k zB).2.2.1,v::T')))
   rw [List.length_take,Nat.min_eq_left (by omega),<- A6] at h2
   exact h2
  have hno: ¬p∈H.flatMap fun b=>b.2.2.2:=by
   rw [hHs]
   rw [A6] at E0
   simp only [List.flatMap_append,List.flatMap_cons] at E0 ⊢
   rw [hp] at E0
   generalize (G.take k).flatMap (fun b:qQ=>b.2.2.2)=A at*
   generalize (G.drop (k+1)).flatMap (fun b:qQ=>b.2.2.2)=B at*
   rw [List.nodup_append] at E0
   obtain ⟨_,d1,d2⟩:=E0
   rw [List.cons_append,List.nodup_cons] at d1
   intro q
   rcases List.mem_append.1 q with q|q
   ·exact d2 p q p (List.mem_cons_self) rfl
   ·rw [List.cons_append,List.mem_cons] at q
    rcases q with q|q
    ·exact Zb q.symm
    ·exact d1.1 q
  have Nu:((p.toNat:Nat):Int)=p:=by omega
  obtain ⟨a1,a2⟩:=Q5 (L:=L) (H:=H) (up:=up) (by omega) (fun j hj=>by
   rw [zz j (by omega)]
   rcases Nat.eq_zero_or_pos j with e0|e0
   ·subst e0;rw [hf.u0];omega
   ·obtain ⟨w,w1,w2,_,_⟩:=hf.Io e0 (by omega)
    rw [w2];omega) (by omega) (by omega) (fun j hj=>by
   rw [Xv];split
   ·have:=hT k hk
    rw [hp] at this
    simp only [List.length_cons] at this ⊢;omega
   ·have:=hT j (by omega);omega) (c1 p1) (c2.trans p2) ⟨p.toNat,by omega,by rw [Nu];exact hno⟩
  have Vy:(((p::T').length:Nat):Int)>0:=by rw [<- hp];exact n5
  have n6:(0:Int)<(((p::T').length:Nat):Int):=Vy
  have n7:0<(p::T').length:=by omega
  have n8:((L.length:Nat):Int)≠0:=by omega
  have fF:(p::T').set 0 v=v::T':=rfl
  have nd:=Jv E0
  refine ⟨?_,?_⟩
  ·unfold eS ay
   dsimp only
   rw [e]
   dsimp only
   rw [o2,Int.toNat_natCast,hp,List.getD_cons_zero,<- hv,fF,<- hH,a2]
   exact fun _ _=>⟨s1,fun q=>absurd q z0,fun _=>⟨fun q=>absurd q n3,fun _=>⟨fun q=>absurd q n4,fun _=>⟨o1,qk,hk,hk,hk,hk,fun _=>⟨qk,hk,hk,hk,qk,hk,hk,hk,hk,n6,hk,n7,n8,hk,n6,hk,n7,nd,g1,fun _=>⟨a1,fun _=>i1⟩⟩,fun q=>absurd Vy q⟩⟩⟩⟩
  ·unfold mz
   dsimp only
   rw [if_neg n1,if_neg n2,lJ,e,if_neg z0,if_neg n3,if_neg n4,lJ,o2,Int.toNat_natCast,hp,if_pos Vy,List.getD_cons_zero,<- hv,fF,<- hH,lJ,lJ,g2,if_pos rfl,lJ,a2,if_pos (by decide),lJ]
   exact i2
 ·
  have Ug:(G.getD k zB).2.2.2= []:=List.length_eq_zero_iff.1 (by omega)
  have hG2:2<=G.length:=by
   rcases hf.Dq hk with ⟨_,_,a3,_⟩|⟨r,_,_,a3,a4,_⟩
   ·rw [Ug] at a3
    exact absurd a3.symm (hf.ne (fun q=>by rw [q] at hl;simp at hl;omega) k hk)
   ·omega
  obtain ⟨m,hm⟩: ∃m,G.length=m+1:=⟨G.length- 1,by omega⟩
  obtain ⟨a1,a2⟩:=Re hf (by omega) (m:=m) (by omega) hm L
  have hw:ae (((G.length:Nat):Int)- 1)=(m:Int):=by rw [cC (by omega) (by omega)];omega
  have Vy: ¬(((([]:List Int).length:Nat):Int)>0):=by decide
  refine ⟨?_,?_⟩
  ·unfold eS ay
   dsimp only
   rw [e]
   dsimp only
   rw [o2,Int.toNat_natCast,Ug,hw,Int.toNat_natCast,a2]
   exact fun _ _=>⟨s1,fun q=>absurd q z0,fun _=>⟨fun q=>absurd q n3,fun _=>⟨fun q=>absurd q n4,fun _=>⟨o1,qk,hk,hk,hk,hk,fun q=>absurd q Vy,fun _=>⟨g1,fun _=>⟨⟨by omega,by omega⟩,a1,fun _=>i1⟩⟩⟩⟩⟩⟩
  ·unfold mz
   dsimp only
   rw [if_neg n1,if_neg n2,lJ,e,if_neg z0,if_neg n3,if_neg n4,lJ,o2,Int.toNat_natCast,Ug,if_neg Vy,lJ,g2,if_pos rfl,hw,Int.toNat_natCast,lJ,a2,if_pos (by decide),lJ]
   exact i2
end Go.Proofs.Ytaipcbdilkcdbaa
