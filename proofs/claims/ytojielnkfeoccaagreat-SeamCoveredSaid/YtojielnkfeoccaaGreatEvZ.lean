/- What the library's SortFunc does to a row of edges (two ints and a slice of ints), by a function that compares two. -/
import Derived.Test.YtojielnkfeoccaaGreatEvY
import Derived.Shelf.SlSortCmp.NoneTotal
noncomputable section
set_option linter.unusedSectionVars false
set_option linter.unusedVariables false
set_option linter.unusedSimpArgs false
namespace Go.Ev
open Go.RowKit
abbrev tE:Ty:= .prod (.int .i64) (.prod (.int .i64) (.sl (.int .i64)))
abbrev cA:Type:=Int×(Int×List Int)
def qm (x:cA):Int×Int:=(x.1,x.2.1)
def FG (x y:cA):Bool:=decide (x.1<y.1)||(decide (x.1=y.1)&&decide (x.2.1<y.2.1))
def eM (l:List cA):List cA:=l.mergeSort fun x y=> !FG y x
def Iz (g:Nat):Spec:=fun _ args hp nm k=>match args with
 | [.v (.one (.full n)),.v (.one (.eN (.func g') [] []))]=>match hp n with
  |some (.row (.prod (.int .i64) (.prod (.int .i64) (.sl (.int .i64)))) l rk)=>if g'=g/\ rk≠0/\ rk≠3 then ob (decide (l.length<1099511627776)) ((l.map qm).Nodup/\ ∀l',l'=eM l->k {val:=aT,writes:= [(n,.row tE l' rk)],aB:= [n]}) else False
  |_=>False
 |_=>False
theorem lN {α β:Type} {f:α->List β} {k:Nat} (hk: ∀x,(f x).length=k): ∀(l:List α) (j q:Nat),q<k->(l.flatMap f)[j*k+q]? =(l[j]?).bind fun x=>(f x)[q]?
 | [],j,q,_=>by simp
 |a::r,0,q,hq=>by
  rw [List.flatMap_cons,Nat.zero_mul,Nat.zero_add,List.getElem?_append_left (by rw [hk];exact hq)];rfl
 |a::r,j+1,q,hq=>by
  rw [List.flatMap_cons,Nat.succ_mul,List.getElem?_append_right (by rw [hk];omega),hk,show j*k+k+q- k=j*k+q by omega,lN hk r j q hq]
  simp
theorem si {α β:Type} {f:α->List β} {k:Nat} (hk: ∀x,(f x).length=k): ∀(l:List α),(l.flatMap f).length=l.length*k
 | []=>by simp
 |a::r=>by rw [List.flatMap_cons,List.length_append,hk,si hk r,List.length_cons,Nat.succ_mul];omega
theorem L2 {α:Type} [Inhabited α] {enc:α->List Value} {k:Nat} (hk: ∀x,(enc x).length=k) (h0:0<k) (d:Array α):(Sort.flatK enc k d).toList=d.toList.flatMap enc:=by
 apply List.ext_getElem?
 intro t
 have hd:=Nat.div_add_mod t k
 have hm:=Nat.mod_lt t h0
 have e:(d.toList.flatMap enc)[t]? =(d.toList[t / k]?).bind fun x=>(enc x)[t % k]? :=by
  have:=lN hk d.toList (t / k) (t % k) hm
  rwa [show t / k*k+t % k=t by rw [Nat.mul_comm];exact hd] at this
 rw [e]
 unfold Sort.flatK
 by_cases ht:t<d.size*k
 ·have h1:t / k<d.size:=Nat.div_lt_of_lt_mul (by rw [Nat.mul_comm];exact ht)
  have h2:t % k<(enc d[t / k]).length:=by rw [hk];exact hm
  simp only [Array.toList_map,List.getElem?_map,Array.toList_range,List.getElem?_range ht,Option.map_some,Array.getElem?_toList]
  rw [Array.getElem?_eq_getElem h1,Option.bind_some,List.getElem?_eq_getElem h2,getElem!_pos d (t / k) h1,getElem!_pos (enc d[t / k]) (t % k) h2]
 ·have h1:d.size≤t / k:=by
   rcases Nat.lt_or_ge (t / k) d.size with h|h
   ·exfalso
    apply ht
    have:=Nat.mul_le_mul_right k (Nat.succ_le_of_lt h)
    rw [Nat.succ_mul,Nat.mul_comm (t / k)] at this
    omega
   ·exact h
  rw [List.getElem?_eq_none (by simp;omega),List.getElem?_eq_none (by simpa using h1)];rfl
theorem Ip {w:World} {b:Nat} {xs ys rest:List Value} {e:TypeId} {fr:Nat×Nat} (h:w.heap[b]? =some (.cells (xs++rest).toArray e fr)) (hl:ys.length=xs.length):
  (Sort.putRow id w b 0 ys.toArray).heap[b]? =some (.cells (ys++rest).toArray e fr):=by
 unfold Sort.putRow Sort.mapBlock
 simp only [Array.getElem?_modify,if_true,h,Option.map_some,Sort.onCells,Option.some.injEq,Obj.cells.injEq,and_true]
 unfold Sort.putCells
 apply Array.ext_getElem?
 intro k
 rw [Array.getElem?_mapIdx]
 simp only [List.getElem?_toArray,Nat.zero_le,true_and,Nat.zero_add,List.size_toArray,Nat.sub_zero]
 by_cases hk:k<ys.length
 ·have hkx:k<xs.length:=hl▸hk
  rw [List.getElem?_append_left hkx,List.getElem?_append_left hk]
  simp only [List.getElem?_eq_getElem hk,List.getElem?_eq_getElem hkx,Option.map_some,if_pos hk]
  rw [getElem!_pos ys.toArray k (by simpa using hk)]
  simp
 ·rw [List.getElem?_append_right (by omega),List.getElem?_append_right (by omega),hl]
  have hk': ¬k<xs.length:=hl▸hk
  cases rest[k- xs.length]? <;>simp [hk']
theorem vA {w:World} {b b':Nat} {d:Array Value} (h:b'≠b):(Sort.putRow id w b 0 d).heap[b']? =w.heap[b']? :=by
 unfold Sort.putRow Sort.mapBlock
 simp only [Array.getElem?_modify]
 rw [if_neg (Ne.symm h)]
theorem Yy {w:World} {b:Nat} {xs rest:List Value} {e:TypeId} (h:w.heap[b]? =some (.cells (xs++rest).toArray e (0,0))):Sort.Holds id w b 0 xs.toArray:=by
 intro j hj
 have hj:j<xs.length:=by simpa using hj
 refine ⟨?_,by simp [World.frozen?,h]⟩
 rw [Nat.zero_add,bO h,List.getElem?_append_left hj,List.getElem?_eq_getElem hj,getElem!_pos xs.toArray j (by simpa using hj)]
 simp
abbrev NG:Type:=cA×(Option Addr×Nat)
def Jx (x:NG):List Value:= [.int .i64 x.1.1,.int .i64 x.1.2.1,.slice x.2.1 x.1.2.2.length x.2.2]
def hp2 (a b:List Int):HP:=fun n=>if n=0 then some (.row (.int .i64) a 0) else if n=1 then some (.row (.int .i64) b 0) else none
def XS (P:Program) (g:Nat) (cf:cA->cA->Int):Prop:= ∀a b:cA,∃s:Spec,ak P g s/\
 s cT [.v (.agg [.raw (.int .i64 a.1),.raw (.int .i64 a.2.1),.full 0]),.v (.agg [.raw (.int .i64 b.1),.raw (.int .i64 b.2.1),.full 1])] (hp2 a.2.2 b.2.2) 2 fun r=>r.val=eu .i64 (cf a b)
theorem Rm {w w':World} (h1:w'.os=w.os) (h2:w'.tape=w.tape) (h3:w'.output=w.output) (h4:w.heap.size<=w'.heap.size) (h5: ∀k,k<w.heap.size->w'.heap[k]? =w.heap[k]?) (h6:w.drawn<=w'.drawn): ∃q os,w'=Sort.grow (w.drewN q) os:=by
 refine ⟨w'.drawn- w.drawn,w'.heap.extract w.heap.size w'.heap.size,?_⟩
 obtain ⟨hp,tp,dr,so,ou⟩:=w
 obtain ⟨gN,tp',dr',so',ou'⟩:=w'
 simp only at h1 h2 h3 h4 h5 h6
 subst h1;subst h2;subst h3
 unfold Sort.grow World.drewN
 simp only [World.mk.injEq,true_and,and_true]
 refine ⟨?_,by omega⟩
 apply Array.ext_getElem?
 intro k
 rcases Nat.lt_or_ge k hp.size with hk|hk
 ·rw [Array.getElem?_append_left hk];exact h5 k hk
 ·rw [Array.getElem?_append_right hk,Array.getElem?_extract]
  by_cases ZE:k- hp.size<gN.size- hp.size
  ·rw [if_pos (by omega),show hp.size+(k- hp.size)=k by omega]
  ·rw [if_neg (by omega),Array.getElem?_eq_none (by omega)]
theorem LG {P:Program} {g:Nat} {cf:cA->cA->Int} (h:XS P g cf) {x y:NG} {w:World} (hx:dU w (fun _=>True) x.2 (.int .i64) x.1.2.2) (hy:dU w (fun _=>True) y.2 (.int .i64) y.1.2.2):
  Calls P g #[.agg (Jx x).toArray,.agg (Jx y).toArray] w fun e w'=>e= .returned (.int .i64 (cf x.1 y.1))/\ ∃q os,w'=Sort.grow (w.drewN q) os:=by
 obtain ⟨s,hs,hc⟩:=h x.1 y.1
 obtain ⟨r,hl,hv⟩:=hs _ _ _ _ _ hc
 let ρ:Env:=fun n=>if n=0 then {base:=x.2.1,len:=x.1.2.2.length,cap:=x.2.2,es:=1} else {base:=y.2.1,len:=y.1.2.2.length,cap:=y.2.2,es:=1}
 have hno: ∀m b,¬(ρ m).has b:=fun m b hb=>by
  simp only [ρ] at hb
  split at hb<;>exact absurd (iC.1 hb) (fun h=>by cases h)
 have ZB: ∀b,¬LO ρ (hp2 x.1.2.2 y.1.2.2) b:=by
  rintro b (⟨m,_,h2⟩|⟨m,S,h1,_⟩)
  ·exact hno m b h2
  ·unfold hp2 at h1
   split at h1
   ·cases h1
   ·split at h1<;>cases h1
 have hrow: ∀(n:Nat) (z:NG),dU w (fun _=>True) z.2 (.int .i64) z.1.2.2->ρ n= {base:=z.2.1,len:=z.1.2.2.length,cap:=z.2.2,es:=1} ->bu (gW ρ (hp2 x.1.2.2 y.1.2.2) w) (B7 Kg w) ρ n (.row (.int .i64) z.1.2.2 0) w:=fun n z hz e=>by
  obtain ⟨_,z1,z2⟩:=hz
  rw [bu,e]
  refine ⟨rfl,rfl,z1,fun _=>(none,0),fun i v hv=> ?_,fun q u' l' hq=> ?_,fun _=>rfl,fun q=>absurd rfl q⟩
  ·rw [A7,←aaf] at hv
   obtain ⟨a,a1,a2,_⟩:=z2 i v hv
   exact ⟨a,a1,a2,fun _=>⟨by have:=cz.of a2;rwa [dX] at this,ZB _⟩⟩
  ·obtain ⟨v,hv⟩:=eP (t:= .int .i64) rfl (List.mem_of_getElem? hq)
   cases hv
 have hst:St Kg w ρ (· <2) (hp2 x.1.2.2 y.1.2.2) w:=by
  refine ⟨Fr.refl _ _,fun n o hn=> ?_,fun n o hn=> ?_,fun n m b _ _ h1=>absurd h1 (hno n b),fun n b _ h1=>absurd h1 (hno n b),fun b ⟨m,S,h1,_⟩=> ?_,fun n o hn=> .inr (by simp only [ρ];split<;>rfl)⟩
  ·unfold hp2 at hn
   split at hn
   ·rename_i e;subst e;cases hn
    exact hrow 0 x hx (by simp [ρ])
   ·split at hn
    ·rename_i e;subst e;cases hn
     exact hrow 1 y hy (by simp [ρ])
    ·cases hn
  ·unfold hp2 at hn
   split at hn
   ·rename_i e;subst e;cases hn;exact ⟨by decide,trivial⟩
   ·split at hn
    ·rename_i e;subst e;cases hn;exact ⟨by decide,trivial⟩
    ·cases hn
  ·unfold hp2 at h1
   split at h1
   ·cases h1
   ·split at h1<;>cases h1
 have key:=hl.2 Kg w ρ (· <2) (hp2 x.1.2.2 y.1.2.2) w (cT.ok Kg w) (fun a ha=>by
  simp only [List.mem_cons,List.not_mem_nil,or_false] at ha
  rcases ha with rfl|rfl
  ·intro c hc
   simp only [List.mem_cons,List.not_mem_nil,or_false] at hc
   rcases hc with rfl|rfl|rfl
   ·trivial
   ·trivial
   ·exact (by decide:0<2)
  ·intro c hc
   simp only [List.mem_cons,List.not_mem_nil,or_false] at hc
   rcases hc with rfl|rfl|rfl
   ·trivial
   ·trivial
   ·exact (by decide:1<2)) (fun _ _=>rfl) (fun i _=>by omega) hst
 refine key.mono ?_
 rintro e w' ⟨ρ',rfl,_,_,nn⟩
 refine ⟨by rw [hv];rfl,Rm nn.fr.os nn.fr.tape nn.fr.output nn.fr.size (fun k hk=>nn.fr.block k hk id) nn.fr.Ez⟩
theorem BZ (x y:cA):FG x y=true↔x.1<y.1\/ (x.1=y.1/\ x.2.1<y.2.1):=by
 unfold FG;simp
theorem B0 (x y:cA):FG x y=false↔ ¬(x.1<y.1\/ (x.1=y.1/\ x.2.1<y.2.1)):=by
 rw [<- BZ];simp
theorem Q5 (sub:Nat->Option Addr×Nat) (l:List cA):aF sub 0 (ai tE l)=(List.finRange l.length).flatMap fun i=>Jx (l[i],sub (i.val*3+2)):=by
 apply List.ext_getElem?
 intro t
 have hd:=Nat.div_add_mod t 3
 have hm:=Nat.mod_lt t (show 0<3 by decide)
 have e1:(ai tE l)[t]? =(l[t / 3]?).bind fun x=>(tE.aL x)[t % 3]? :=by
  have:=lN (f:=tE.aL) (k:=3) (fun x=>aK tE x) l (t / 3) (t % 3) hm
  rwa [show t / 3*3+t % 3=t by omega] at this
 have e2:((List.finRange l.length).flatMap fun i=>Jx (l[i],sub (i.val*3+2)))[t]? =((List.finRange l.length)[t / 3]?).bind fun i=>(Jx (l[i],sub (i.val*3+2)))[t % 3]? :=by
  have:=lN (f:=fun i:Fin l.length=>Jx (l[i],sub (i.val*3+2))) (k:=3) (fun x=>rfl) (List.finRange l.length) (t / 3) (t % 3) hm
  rwa [show t / 3*3+t % 3=t by omega] at this
 rw [bl,e1,e2,Nat.zero_add]
 rcases Nat.lt_or_ge (t / 3) l.length with h|h
 ·have h2:t / 3<(List.finRange l.length).length:=by simpa using h
  rw [List.getElem?_eq_getElem h,List.getElem?_eq_getElem h2,Option.bind_some,Option.bind_some,List.getElem_finRange]
  have hx:t % 3=0\/ t % 3=1\/ t % 3=2:=by omega
  rcases hx with hx|hx|hx
  ·rw [hx];rfl
  ·rw [hx];rfl
  ·have ht:t=t / 3*3+2:=by omega
   rw [hx]
   show some (ew (sub t) (.sl (.int .i64) _))=some _
   unfold ew
   simp only [Fin.cast_mk,Fin.getElem_fin]
   rw [<- ht]
 ·rw [List.getElem?_eq_none h,List.getElem?_eq_none (by simpa using h)];rfl
theorem Fr.adY {ax:jh} {W w:World} {b m:Nat} {d:Array Value} (h:Fr ax W w) (hb:W.heap.size<=b\/ ax b):Fr ax W (Sort.putRow id (Sort.ahead w m) b 0 d):=
 ⟨h.os,h.tape,h.output,by rw [Sort.size_putRow];exact h.size,fun k hk hn=>by
  rw [vA (by rintro rfl;exact hb.elim (by omega) hn)];exact h.block k hk hn,Nat.le_trans h.Ez (Nat.le_add_right _ _)⟩
theorem HY (l:List cA):(List.finRange l.length).map (fun i=>l[i])=l:=by
 apply List.ext_getElem?
 intro t
 rw [List.getElem?_map]
 rcases Nat.lt_or_ge t l.length with h|h
 ·rw [List.getElem?_eq_getElem h,List.getElem?_eq_getElem (by simpa using h),List.getElem_finRange];rfl
 ·rw [List.getElem?_eq_none h,List.getElem?_eq_none (by simpa using h)];rfl
open Go.Proofs Go.Shelf in
theorem Q9 {P:Program} {mI:Go.Shelf.Ren} (L:SlLaysF0.n6 P mI) (aE: ∀w,(isAgg (mI.t 24)).run P w= .ok true w) (zE: ∀w,(Go.sizeOf (mI.t 24)).run P w= .ok 3 w) {g:Nat} (eg: ∀args w,(callFunc g args).run P w= .ok (.enter g args) w)
  {cf:cA->cA->Int} (hc:XS P g cf) (hcf: ∀x y,decide (cf x y<0)=FG x y):ak P (mI.f 6) (Iz g):=by
 intro X args hp nm k hs
 unfold Iz at hs
 split at hs<;>try (exact hs.elim)
 rename_i n g'
 split at hs<;>try (exact hs.elim)
 rename_i l rk he
 split at hs<;>try (exact hs.elim)
 rename_i SK
 obtain ⟨rfl,o7,HG⟩:=SK
 obtain ⟨hlen,ur,hk⟩:=br hs
 have hlen:=of_decide_eq_true hlen
 refine ⟨_,⟨fun p gN=> ?_,?_⟩,hk _ rfl⟩
 ·simp only [List.mem_singleton] at gN;subst gN;rw [he];simp
 intro ax W ρ Kn Γ w _ hok ht hfr hst
 have cm:Γ n=some (.row tE l rk):=by rw [ht n (by simp),he]
 obtain ⟨o1,o2,o3,sub,m1,m2,m3,m4⟩:=hst.at_ n _ cm
 have ZY:iK Kn nm {val:=aT,writes:= [(n,aQ.row tE (eM l) rk)],aB:= [n]} =Kn:=fe _ _ _ _ _
 have hl':(eM l).length=l.length:=List.length_mergeSort l
 have ea:([AV.v (.one (.full n)),AV.v (.one (.eN (.func g') [] []))].map (AV.ae ρ)).toArray= #[.slice (ρ n).base (ρ n).len (ρ n).cap,.func (.func g') #[] #[]]:=rfl
 have Ym:l= []->Calls P (mI.f 6) ([AV.v (.one (.full n)),AV.v (.one (.eN (.func g') [] []))].map (AV.ae ρ)).toArray w fun e w'=> ∃ρ',e= .returned (aT.ae ρ')/\ (∀m,Kn m->ρ' m=ρ m)/\ aT.ok (iK Kn nm {val:=aT,writes:= [(n,aQ.row tE (eM l) rk)],aB:= [n]})/\ St ax W ρ' (iK Kn nm {val:=aT,writes:= [(n,aQ.row tE (eM l) rk)],aB:= [n]}) (cq {val:=aT,writes:= [(n,aQ.row tE (eM l) rk)],aB:= [n]} nm Γ) w':=fun h0=>by
  subst h0
  rw [ea,o1]
  refine (AnyF.slices_SortFunc_none L _ _ _ w).mono ?_
  rintro e w' ⟨rfl,rfl⟩
  refine ⟨ρ,rfl,fun _ _=>rfl,nQ _,?_⟩
  rw [ZY,gp _ _ _ _ _ _ rfl]
  have e1:eM []= []:=by simp [eM]
  have:bK Γ n (.row tE (eM []) rk)=Γ:=by
   funext m;unfold bK;split
   ·rename_i e2;subst e2;rw [e1];exact cm.symm
   ·rfl
  rw [this];exact hst
 by_cases h0:l= []
 ·exact Ym h0
 rcases (m4 o7).old HG with ⟨_,h2,_⟩|⟨b,rest,e0,h1,h2,h3,h4,h5⟩
 ·exact absurd h2 h0
 have hpos:0<l.length:=List.length_pos_iff.2 h0
 haveI:Inhabited (Fin l.length):=⟨⟨0,hpos⟩⟩
 let ed:Fin l.length->NG:=fun i=>(l[i],sub (i.val*3+2))
 let enc:Fin l.length->List Value:=fun i=>Jx (ed i)
 let Py:Fin l.length->Fin l.length->Int:=fun i j=>cf (ed i).1 (ed j).1
 have V4: ∀x,(enc x).length=3:=fun x=>rfl
 have pL:=Q5 sub l
 have hlt: ∀i j,ltOf Py i j=FG l[i] l[j]:=fun i j=>hcf _ _
 have hb:=hst.lt n b (by rw [cm];rfl) (.inl h1)
 have hown:=hst.own n b (by rw [cm];rfl) h1
 rw [pL] at h3 h4
 have Vb: ∀fs:List (Fin l.length),Sort.flatK enc 3 fs.toArray=(fs.flatMap enc).toArray:=fun fs=>Array.ext' (by rw [L2 V4 (by decide)])
 have SO:(List.finRange l.length).toArray.size=l.length:=by simp
 have hH:Sort.HoldsK enc 3 w b 0 (List.finRange l.length).toArray:=by
  unfold Sort.HoldsK
  rw [Vb];exact Yy h3
 have Xr: ∀i:Fin l.length,dU w (fun b'=>gW ρ Γ w b'/\ (rk=2->B7 ax W b'/\ IW w b')) (ed i).2 (.int .i64) (ed i).1.2.2:=fun i=>by
  have hq:(ai tE l)[i.val*3+2]? =some (.sl (.int .i64) l[i].2.2):=by
   have:=lN (f:=tE.aL) (k:=3) (fun x=>aK tE x) l i.val 2 (by decide)
   rw [List.getElem?_eq_getElem i.isLt] at this
   exact this
  exact m2 _ _ _ hq
 have hne: ∀b',gW ρ Γ w b'->b'≠b:=fun b' hb' e=>hb'.2 (.inl ⟨n,by rw [cm];rfl,by rw [e];exact .inl h1⟩)
 have hsw: ∀(m:Nat) (dk:Array (Fin l.length)) (os:Array Obj) (b':Nat),b'<w.heap.size->b'≠b->(sortWorldK enc 3 w b 0 m dk os).heap[b']? =w.heap[b']? :=fun m dk os b' hb' hbn=>by
  unfold sortWorldK Sort.putRowK
  rw [zm (by rw [Sort.size_putRow];exact hb'),vA hbn];rfl
 have hcmp:CmpLays P g' #[] enc 3 Py b 0 (List.finRange l.length).toArray.size w:=fun m os dk hdk i j=>by
  have hz: ∀i:Fin l.length,dU (sortWorldK enc 3 w b 0 m dk os) (fun _=>True) (ed i).2 (.int .i64) (ed i).1.2.2:=fun i=>
   (Xr i).mono fun b' hb'=>⟨trivial,hsw m dk os b' hb'.1.1.lt (hne b' hb'.1)⟩
  have:=LG hc (hz i) (hz j)
  simpa using this
 have hO:Sort.SWO (ltOf Py):=by
  refine ⟨fun x=> ?_,fun x y z h1 h2=> ?_,fun x y z h1 h2=> ?_⟩
  ·rw [hlt,B0];omega
  ·rw [hlt,BZ] at*;omega
  ·rw [hlt,B0] at*;omega
 have hT: ∀x y,ltOf Py x y=false->ltOf Py y x=false->x=y:=fun x y q1 q2=>by
  rw [hlt,B0] at q1 q2
  have hkey:qm l[x]=qm l[y]:=by
   unfold qm
   rw [Prod.mk.injEq]
   exact ⟨by omega,by omega⟩
  have YB:=List.pairwise_iff_getElem.1 ur
  rcases Nat.lt_trichotomy x.val y.val with h|h|h
  ·exact absurd (by simpa using hkey) (YB x.val y.val (by simp) (by simp) h)
  ·exact Fin.ext h
  ·exact absurd (by simpa using hkey.symm) (YB y.val x.val (by simp) (by simp) h)
 have CW:=AnyQ.slices_SortFunc_total L 3 aE zE enc V4 (fun x v hv=>by
  simp only [enc,Jx,List.mem_cons,List.not_mem_nil,or_false] at hv
  rcases hv with rfl|rfl|rfl<;>rfl) Py hO g' #[] b 0 (ρ n).cap (List.finRange l.length).toArray w eg hcmp hH hb (by rw [SO];omega) hT
 rw [SO] at CW
 rw [ea,o1,h2]
 refine CW.mono ?_
 rintro e w' ⟨rfl,m,os,rfl⟩
 have hmap:((List.finRange l.length).mergeSort (fun x y=> !(ltOf Py) y x)).map (fun i:Fin l.length=>l[i])=eM l:=by
  rw [List.map_mergeSort (s:=fun x y=> !FG y x) (fun a _ b _=>by rw [hlt]),HY];rfl
 have aaE:((List.finRange l.length).mergeSort (fun x y=> !(ltOf Py) y x)).length=l.length:=by rw [List.length_mergeSort];simp
 generalize SP:(List.finRange l.length).mergeSort (fun x y=> !(ltOf Py) y x)=fs at hmap aaE ⊢
 have ac6:((List.finRange l.length).toArray.toList.mergeSort fun x y=> !(ltOf Py) y x)=fs:=by rw [List.toList_toArray];exact SP
 try rw [ac6]
 have hfl:fs.length=l.length:=aaE
 have hcs:ai tE (eM l)=fs.flatMap fun i:Fin l.length=>tE.aL l[i]:=by
  rw [<- hmap];unfold ai;rw [List.flatMap_map]
 refine ⟨ρ,rfl,fun _ _=>rfl,nQ _,?_⟩
 rw [ZY,gp _ _ _ _ _ _ rfl]
 have hvl:(fs.flatMap enc).length=((List.finRange l.length).flatMap enc).length:=by rw [si V4,si V4,hfl];simp
 have hput:(Sort.putRow id (Sort.ahead w m) b 0 (fs.flatMap enc).toArray).heap[b]? =some (.cells (fs.flatMap enc++rest).toArray e0 (0,0)):=Ip (w:=Sort.ahead w m) h3 hvl
 have sn:St ax W ρ Kn (bK Γ n (.row tE (eM l) rk)) (Sort.putRow id (Sort.ahead w m) b 0 (fs.flatMap enc).toArray):=by
  refine hst.Aa cm h1 trivial (fun _ h=>by cases h) (hst.fr.adY hown) (fun b' hb'=>vA hb') (by rw [Sort.size_putRow];exact Nat.le_refl _) fun hfz=> ?_
  have Fs: ∀fs:List (Fin l.length),cn (dW (Sort.putRow id (Sort.ahead w m) b 0 ((List.mergeSort (List.finRange l.length) fun x y=> !(ltOf Py) y x).flatMap enc).toArray) (fun b'=>gW ρ (bK Γ n (.row tE (eM l) rk)) (Sort.putRow id (Sort.ahead w m) b 0 ((List.mergeSort (List.finRange l.length) fun x y=> !(ltOf Py) y x).flatMap enc).toArray) b'/\ (rk=2->B7 ax W b'/\ IW (Sort.putRow id (Sort.ahead w m) b 0 ((List.mergeSort (List.finRange l.length) fun x y=> !(ltOf Py) y x).flatMap enc).toArray) b'))) (fs.flatMap fun i:Fin l.length=>tE.aL l[i]) (fs.flatMap enc):=by
   rw [SP]
   intro fs'
   induction fs' with
   |nil=>trivial
   |cons i r ih=>
    rw [List.flatMap_cons,List.flatMap_cons]
    refine cn.append ?_ ih
    exact ⟨rfl,rfl,⟨_,_,rfl,(Xr i).mono fun b' hb'=>⟨⟨(hfz b' hb'.1).1,fun e=>⟨(hb'.2 e).1,(hb'.2 e).2.same (hfz b' hb'.1).2⟩⟩,(hfz b' hb'.1).2⟩⟩,trivial⟩
  have Fs:=Fs fs
  rw [SP,<- hcs] at Fs
  obtain ⟨s1,s2⟩:=qR Fs
  rw [bu]
  refine ⟨by rw [hl'];exact o1,o2,by rw [hl'];exact o3,uL (fs.flatMap enc),fun i v hv=> ?_,s2,fun e=>absurd e o7,fun _=>gl.new (.inr ⟨b,rest,e0,h1,h2,by rw [s1];exact hput,?_,h5⟩)⟩
  ·rw [s1] at hv
   refine ⟨_,h2,?_,fun e=>absurd e o7⟩
   have e1:(⟨b,0,none⟩:Addr).add i=⟨b,i,none⟩:=by unfold Addr.add;split<;>simp_all
   rw [e1,bO hput,List.getElem?_append_left (List.getElem?_eq_some_iff.1 hv).1];exact hv
  ·rw [s1,h4,List.length_append,List.length_append,hvl]
 unfold sortWorldK Sort.putRowK
 rw [Vb]
 exact sn.world sn.fr.aak fun b' hb'=>zm hb'
end Go.Ev
