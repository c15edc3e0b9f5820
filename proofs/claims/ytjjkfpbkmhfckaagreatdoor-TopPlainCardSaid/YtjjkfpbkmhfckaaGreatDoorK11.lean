import Derived.Test.YtjjkfpbkmhfckaaGreatDoorK09
import Derived.Test.YtjjkfpbkmhfckaaGreatDoorK10
set_option linter.unusedVariables false
set_option linter.unusedSimpArgs false
set_option maxHeartbeats 1000000
set_option maxRecDepth 10000
namespace Go.TravelAbs
open Go.RowKit Go.TravelBase
structure Alt where
  j:Nat
  c:Nat
  k:Nat
  b1:Blk
  b2:Blk
def alH:List Alt→Nat→List (Nat × Blk)
  | [],_=>[]
  | x::r,j=>if x.j=j then [(x.k,x.b1)] else alH r j
def alT:List Alt→Nat→List (List (Nat × Blk))
  | [],_=>[]
  | x::r,j=>if x.j=j then [[(x.k,x.b2)]] else alT r j
def altP (ty:Ty) (σ:Sg) (gd:Nat→Option Tmp) (rs:List (List (Nat × Blk))) (H:List (Nat × Blk)) (fr:Nat) (tm:List (Nat × AV)) (o:Oper) (out:Out):Prop :=
  match rs with
  | []=>True
  | r::rs =>
    (match evG ty σ gd (r++H) fr tm o with
    | some o2=>o2.v=out.v∧o2.eff=out.eff∧o2.vc
    | none=>False)∧altP ty σ gd rs H fr tm o out
def alC (c k:Nat) (b:Blk):List (Nat × List (Nat × Blk))→Prop
  | []=>True
  | x::r=>(if x.1=c then x.2=[(k,b)] else ∀ y∈x.2,y.1 ≠ k)∧alC c k b r
def alOK (H:List (Nat × Blk)) (he:List (Nat × List (Nat × Blk))):List Alt→Prop
  | []=>True
  | x::r=>(lk H x.k=some x.b1∧alC x.c x.k x.b2 he∧he.any (fun y=>y.1 == x.c)=true)∧alOK H he r
theorem alC_at {c k:Nat} {b:Blk}:∀ {he:List (Nat × List (Nat × Blk))},alC c k b he → ∀ y∈he,if y.1=c then y.2=[(k,b)] else ∀ z∈y.2,z.1 ≠ k
  | [],_,y,hy=>by cases hy
  | x::r,h,y,hy=>by
    rcases List.mem_cons.1 hy with rfl | hy
    · exact h.1
    · exact alC_at h.2 y hy
theorem alOK_at {H:List (Nat × Blk)} {he:List (Nat × List (Nat × Blk))}:∀ {al:List Alt},alOK H he al → ∀ {x:Alt},x∈al→lk H x.k=some x.b1∧(∀ y∈he,if y.1=x.c then y.2=[(x.k,x.b2)] else ∀ z∈y.2,z.1 ≠ x.k) ∧ ∃ y∈he,y.1=x.c
  | [],_,x,hx=>by cases hx
  | z::r,h,x,hx=>by
    rcases List.mem_cons.1 hx with rfl | hx
    · refine ⟨h.1.1,alC_at h.1.2.1,?_⟩;have:=h.1.2.2;simpa using this
    · exact alOK_at h.2 hx
theorem alH_cases:∀ (al:List Alt) (j:Nat),(alH al j=[]∧alT al j=[]) ∨ ∃ x∈al,x.j=j∧alH al j=[(x.k,x.b1)]∧alT al j=[[(x.k,x.b2)]]
  | [],j=>.inl ⟨rfl,rfl⟩
  | x::r,j=>by
    by_cases h:x.j=j
    · exact .inr ⟨x,by simp,h,by simp [alH,h],by simp [alT,h]⟩
    · rcases alH_cases r j with ⟨h1,h2⟩ | ⟨y,h1,h2,h3,h4⟩
      · exact .inl ⟨by simp [alH,h,h1],by simp [alT,h,h2]⟩
      · exact .inr ⟨y,by simp [h1],h2,by simp [alH,h,h3],by simp [alT,h,h4]⟩
theorem lk_all_eq {b:Blk} {k:Nat}:∀ {L:List (Nat × Blk)},(∀ y∈L,y.1=k→y=(k,b))→(∃ y∈L,y.1=k)→lk L k=some b
  | [],_,h=>by obtain ⟨y,hy,_⟩:=h;cases hy
  | x::r,h,he=>by
    simp only [lk];split
    · rename_i e;rw [h x (by simp) e.symm]
    · rename_i e;refine lk_all_eq (fun y hy=>h y (by simp [hy])) ?_;obtain ⟨y,hy,hq⟩:=he;rcases List.mem_cons.1 hy with rfl | hy
      · exact absurd hq.symm e
      · exact ⟨y,hy,hq⟩
theorem neE_inv {acc:List En} {y:Nat × List (Nat × Blk)} (h:y∈neE acc):∃ z∈acc,z.j=y.1∧z.ef=y.2:=by
  unfold neE at h;obtain ⟨z,hz,hq⟩:=List.mem_filterMap.1 h;refine ⟨z,hz,?_⟩;split at hq
  · cases hq
  · rename_i ef hef;injection hq with hq;subst hq;exact ⟨rfl,rfl⟩
theorem FH_in {acc:List En} {d:Nat→Bool} {z:En} (hz:z∈acc) (hd:d z.j=true) {y:Nat × Blk} (hy:y∈z.ef):y∈FH acc d:=by
  unfold FH;rw [List.mem_flatMap];exact ⟨z,hz,by rw [if_pos hd];exact hy⟩
section
variable {ty:Ty} {σ:Sg}
theorem altP_congr {gd:Nat→Option Tmp} {H:List (Nat × Blk)} {fr:Nat} {tm tm':List (Nat × AV)} {o:Oper} {out:Out} (h:∀ t∈nm gd o,gt tm t=gt tm' t):∀ {rs:List (List (Nat × Blk))},altP ty σ gd rs H fr tm o out=altP ty σ gd rs H fr tm' o out
  | []=>rfl
  | r::rs=>by
    unfold altP;rw [evG_congr h,altP_congr h]
end
def evD3 (ty:Ty) (σ:Sg) (gd:Nat→Option Tmp) (tbl:List (List Nat)) (nb:List Nat) (hk:List (List Nat)) (al:List Alt) (H0:List (Nat × Blk)) (ctr sz:Nat):List Oper→Nat→List (Nat × AV)→List (Nat × List (Nat × Blk))→Option (List (Nat × AV) × List (Nat × List (Nat × Blk)) × Prop)
  | [],_,tm,he=>some (tm,he,True)
  | o::r,j,tm,he =>
    match evG ty σ gd (alH al j++hid (hk.getD j []) (visH tbl j he++H0)) (ctr+8*j) tm o with
    | some out =>
      match evD3 ty σ gd tbl nb hk al H0 ctr sz r (j+1) (putT o.dst out.v tm) (addE j out.eff he) with
      | some (tm',he',vc)=>some (tm',he',(dOK o.dst sz=true∧hidOK (hk.getD j []) out.eff=true)∧keyOK tbl nb ctr j out.eff=true∧(out.vc∧altP ty σ gd (alT al j) (hid (hk.getD j []) (visH tbl j he++H0)) (ctr+8*j) tm o out)∧vc)
      | none=>none
    | none=>none
section
variable {P:Program} {ty:Ty} {X:Cx} {σ:Sg}
def Good3 (ty:Ty) (σ:Sg) (ops:Array Oper) (tbl:List (List Nat)) (nb:List Nat) (hk:List (List Nat)) (al:List Alt) (H0:List (Nat × Blk)) (tm0:List (Nat × AV)) (ctr sz:Nat):List En→Prop
  | []=>True
  | e::acc=>e.j=acc.length∧(∃ o out,ops[e.j]? = some o∧evG ty σ (fun j=>(ops[j]?).bind (·.dst)) (alH al e.j++hid (hk.getD e.j []) (FH acc (fun i=>inL i (tbl.getD e.j []))++H0)) (ctr+8*e.j) (FT acc (fun _=>true)++tm0) o=some out ∧
      e.ps=putT o.dst out.v []∧e.ef=out.eff∧(dOK o.dst sz=true∧hidOK (hk.getD e.j []) out.eff=true)∧keyOK tbl nb ctr e.j out.eff=true∧out.vc∧altP ty σ (fun j=>(ops[j]?).bind (·.dst)) (alT al e.j) (hid (hk.getD e.j []) (FH acc (fun i=>inL i (tbl.getD e.j []))++H0)) (ctr+8*e.j) (FT acc (fun _=>true)++tm0) o out)∧Good3 ty σ ops tbl nb hk al H0 tm0 ctr sz acc
theorem evD3_good {ops:Array Oper} {tbl:List (List Nat)} {nb:List Nat} {hk:List (List Nat)} {al:List Alt} {H0:List (Nat × Blk)} {tm0:List (Nat × AV)} {ctr sz:Nat}:∀ (l:List Oper) (acc:List En) (tm':List (Nat × AV)) (he':List (Nat × List (Nat × Blk))) (vc:Prop),Good3 ty σ ops tbl nb hk al H0 tm0 ctr sz acc→(∀ i,l[i]? = ops[acc.length+i]?) →
    evD3 ty σ (fun j=>(ops[j]?).bind (·.dst)) tbl nb hk al H0 ctr sz l acc.length (FT acc (fun _=>true)++tm0) (neE acc)=some (tm',he',vc)→vc → ∃ acc',Good3 ty σ ops tbl nb hk al H0 tm0 ctr sz acc'∧acc'.length=acc.length+l.length∧tm'=FT acc' (fun _=>true)++tm0∧he'=neE acc'
  | [],acc,tm',he',vc,hG,_,h,_=>by
    simp only [evD3,Option.some.injEq,Prod.mk.injEq] at h;obtain ⟨rfl,rfl,_⟩:=h;exact ⟨acc,hG,rfl,rfl,rfl⟩
  | o::r,acc,tm',he',vc,hG,hl,h,hvc=>by
    simp only [evD3] at h;split at h
    · rename_i out hout;split at h
      · rename_i tm2 he2 vc2 h2;simp only [Option.some.injEq,Prod.mk.injEq] at h;obtain ⟨rfl,rfl,rfl⟩:=h;obtain ⟨v1,v2,v3,v4⟩:=hvc;have ho:ops[acc.length]? = some o:=by have:=hl 0;simpa using this.symm
        rw [visH_neE] at hout v3;let e:En:=⟨acc.length,putT o.dst out.v [],out.eff⟩
        have hG':Good3 ty σ ops tbl nb hk al H0 tm0 ctr sz (e::acc):=⟨rfl,⟨o,out,ho,hout,rfl,rfl,v1,v2,v3⟩,hG⟩;have e1:putT o.dst out.v (FT acc (fun _=>true)++tm0)=FT (e::acc) (fun _=>true)++tm0:=by
          rw [putT_app];simp [FT,e]
        rw [e1,show addE acc.length out.eff (neE acc)=neE (e::acc) from addE_neE e acc] at h2
        obtain ⟨acc',q1,q2,q3,q4⟩:=evD3_good r (e::acc) tm2 he2 vc2 hG' (fun i=>by
          have:=hl (i+1);simp only [List.getElem?_cons_succ] at this;rw [this,List.length_cons,show acc.length+(i+1)=acc.length+1+i by omega]) h2 v4
        exact ⟨acc',q1,by rw [q2];simp;omega,q3,q4⟩
      · cases h
    · cases h
theorem Good3.split {ops:Array Oper} {tbl:List (List Nat)} {nb:List Nat} {hk:List (List Nat)} {al:List Alt} {H0:List (Nat × Blk)} {tm0:List (Nat × AV)} {ctr sz:Nat}:∀ {acc:List En},Good3 ty σ ops tbl nb hk al H0 tm0 ctr sz acc → ∀ {j:Nat},j<acc.length →
    ∃ pre e acc',acc=pre++e::acc'∧e.j=j∧Good3 ty σ ops tbl nb hk al H0 tm0 ctr sz (e::acc')∧(∀ x∈pre,j<x.j)∧(∀ x∈acc',x.j<j)
  | [],_,j,hj=>by simp at hj
  | e::acc,hG,j,hj=>by
    have hlt:∀ {acc:List En},Good3 ty σ ops tbl nb hk al H0 tm0 ctr sz acc → ∀ x∈acc,x.j<acc.length:=by
      intro acc;induction acc with
      | nil=>intro _ x hx;cases hx
      | cons y acc ih =>
        intro hG x hx;rcases List.mem_cons.1 hx with rfl | hx
        · have:=hG.1;simp;omega
        · have:=ih hG.2.2 x hx;simp;omega
    by_cases he:j=acc.length
    · exact ⟨[],e,acc,rfl,by rw [hG.1,he],hG,(fun x hx=>absurd hx List.not_mem_nil),(fun x hx=>by rw [he];exact hlt hG.2.2 x hx)⟩
    · have hj':j<acc.length:=by simp at hj;omega
      obtain ⟨pre,e',acc',h1,h2,h3,h4,h5⟩:=Good3.split hG.2.2 hj';refine ⟨e::pre,e',acc',by rw [h1];rfl,h2,h3,fun x hx=>?_,h5⟩;rcases List.mem_cons.1 hx with rfl | hx
      · rw [hG.1];exact hj'
      · exact h4 x hx
theorem Good3.at_ {ops:Array Oper} {tbl:List (List Nat)} {nb:List Nat} {hk:List (List Nat)} {al:List Alt} {H0:List (Nat × Blk)} {tm0:List (Nat × AV)} {ctr sz:Nat} {acc:List En} (hG:Good3 ty σ ops tbl nb hk al H0 tm0 ctr sz acc) {e:En} (he:e∈acc) :
    e.j<acc.length ∧ ∃ (o:Oper) (out:Out),ops[e.j]? = some o∧e.ps=putT o.dst out.v []∧e.ef=out.eff∧keyOK tbl nb ctr e.j out.eff=true∧hidOK (hk.getD e.j []) out.eff=true:=by
  induction acc with
  | nil=>cases he
  | cons y acc ih =>
    rcases List.mem_cons.1 he with rfl | he
    · obtain ⟨h1,⟨o,out,h2,h3,h4,h5,h6,h7,h8⟩,_⟩:=hG;exact ⟨by simp;omega,o,out,h2,h4,h5,h7,h6.2⟩
    · obtain ⟨h1,h2⟩:=ih hG.2.2 he;exact ⟨by simp;omega,h2⟩
theorem drawn3_ok (hT:TysOK P ty) (hσ:SgOK P σ) {ops:Array Oper} {Q:Exit→Act→World→Prop} {tbl:List (List Nat)} {nb:List Nat} {hk:List (List Nat)} {al:List Alt} (hdr:drB ops tbl nb=true) {s:St} {tm':List (Nat × AV)} {he':List (Nat × List (Nat × Blk))} {vc:Prop}
    (hev:evD3 ty σ (fun j=>(ops[j]?).bind (·.dst)) tbl nb hk al s.H s.ctr s.sz ops.toList 0 s.tm []=some (tm',he',vc)) (hvc:vc) (hwr:wrB2 tbl nb hk s.ctr he'=true) (hal:alOK s.H he' al)
    (hQ:∀ a w,Rel X ⟨tm',allH he'++s.H,s.ctr+8*ops.size,s.sz⟩ a w→Q .normal a w) {a:Act} {w:World} (hR:Rel X s a w) :
    wpAny P .any ops Q ops.size (Array.replicate ops.size false) a w:=by
  obtain ⟨accN,hG,hlen,rfl,rfl⟩:=evD3_good (tm0:=s.tm) (H0:=s.H) ops.toList [] tm' he' vc trivial (fun i=>by simp) hev hvc;have hlen:accN.length=ops.size:=by simpa using hlen
  obtain ⟨S0,m0,hM0,ht0⟩:=hR.mem;have hdr':=hdr;simp only [drB,List.all_eq_true,Bool.and_eq_true] at hdr';have hz:∀ {j:Nat} {o:Oper},ops[j]? = some o→(o,j)∈ops.toList.zipIdx:=by
    intro j o ho;rw [List.mem_zipIdx_iff_getElem?];simpa using ho
  have D1:∀ (j:Nat) (o:Oper),ops[j]? = some o → ∀ e∈o.after,Region.binds .any e=true→e.on<j:=fun j o ho e he hb=>by
    have:=(hdr' (o,j) (hz ho)).1.1.1 e (by simpa using he);simpa [hb] using this
  have D2:∀ (j:Nat) (o:Oper),ops[j]? = some o → ∀ i∈tbl.getD j [],∃ e∈o.after,Region.binds .any e=true∧(e.on=i∨i∈tbl.getD e.on []):=fun j o ho i hi=>by
    have:=((hdr' (o,j) (hz ho)).1.1.2 i hi).1;simp only [List.any_eq_true,Bool.and_eq_true,Bool.or_eq_true,beq_iff_eq,inL_mem] at this;obtain ⟨e,h1,h2,h3⟩:=this;exact ⟨e,by simpa using h1,h2,h3⟩
  have D3:∀ (j:Nat) (o:Oper),ops[j]? = some o → ∀ i∈tbl.getD j [],∀ i'∈tbl.getD i [],i'∈tbl.getD j []:=fun j o ho i hi i' hi'=>by
    have:=((hdr' (o,j) (hz ho)).1.1.2 i hi).2 i' hi';exact inL_mem.1 this
  have D4:∀ (j:Nat) (o:Oper),ops[j]? = some o→j∈nb∨blind o.op=true:=fun j o ho=>by
    have:=(hdr' (o,j) (hz ho)).1.2;simpa [inL_mem] using this
  have D5:∀ (j:Nat) (o:Oper),ops[j]? = some o → ∀ (i:Nat) (o':Oper) (t:Tmp),ops[i]? = some o'→i ≠ j→o'.dst=some t→(t∈nm (fun j=>(ops[j]?).bind (·.dst)) o∨o.dst=some t)→i∈tbl.getD j []∨j∈tbl.getD i []:=fun j o ho i o' t ho' hne hd ht=>by
    have:=(hdr' (o,j) (hz ho)).2 (o',i) (hz ho');simp only [Bool.or_eq_true,beq_iff_eq,hd,Bool.not_eq_true',Bool.or_eq_false_iff] at this;rcases this with h | h | h
    · exact absurd h hne
    · exfalso;rcases ht with ht | ht
      · rw [inL_mem.2 ht] at h;simp at h
      · rw [ht] at h;simp at h
    · exact ordB_iff.1 h
  have hopsN:∀ j,j<ops.size → ∃ o,ops[j]? = some o:=fun j hj=>⟨_,Array.getElem?_eq_getElem hj⟩;have P2:∀ (j:Nat) (o:Oper),ops[j]? = some o → ∀ i∈tbl.getD j [],i<j:=by
    intro j;induction j using Nat.strongRecOn with
    | _ j ih =>
      intro o ho i hi;obtain ⟨e,h1,hb1,h3⟩:=D2 j o ho i hi;have hlt:=D1 j o ho e h1 hb1;rcases h3 with h3 | h3
      · omega
      · obtain ⟨o',ho'⟩:=hopsN e.on (by have:=(Array.getElem?_eq_some_iff.1 ho).1;omega);have:=ih e.on hlt o' ho' i h3;omega
  have P1:∀ (d:Nat→Bool),(∀ (j:Nat) (oj:Oper) (e:Edge),d j=true→ops[j]? = some oj→e∈oj.after→Region.binds .any e=true→d e.on=true) → ∀ (j:Nat) (o:Oper),ops[j]? = some o→(∀ e∈o.after,Region.binds .any e=true→d e.on=true) → ∀ i∈tbl.getD j [],d i=true:=by
    intro d hcl j;induction j using Nat.strongRecOn with
    | _ j ih =>
      intro o ho hpre i hi;obtain ⟨e,h1,h2,h3⟩:=D2 j o ho i hi;have hlt:=D1 j o ho e h1 h2;have hd:=hpre e h1 h2;rcases h3 with h3 | h3
      · rw [← h3];exact hd
      · obtain ⟨o',ho'⟩:=hopsN e.on (by have:=(Array.getElem?_eq_some_iff.1 ho).1;omega);exact ih e.on hlt o' ho' (fun e' he' hb=>hcl e.on o' e' hd ho' he' hb) i h3
  have kfact:∀ e∈accN,∀ x∈e.ef,ownK s.ctr e.j x.1=true∨(e.j∈nb∧(x.1<s.ctr∨(x.1-s.ctr) / 8∈tbl.getD e.j [])):=by
    intro e he x hx;obtain ⟨_,o,out,_,_,h3,h4,_⟩:=hG.at_ he;rw [h3] at hx;have:=List.all_eq_true.1 h4 x hx;simpa [inL_mem] using this
  have wfact:∀ e∈accN,∀ x∈e.ef,ownK s.ctr e.j x.1=false → ∀ j∈nb,j ≠ e.j→(e.j∈tbl.getD j []∨j∈tbl.getD e.j [])∨inL x.1 (hk.getD j [])=true:=by
    intro e he x hx ho j hj hne;exact (wrB2_at hwr (e.j,e.ef) (neE_mem he hx) x hx ho j hj hne).imp ordB_iff.1 id
  have opsOf:∀ e∈accN,∃ o,ops[e.j]? = some o:=fun e he=>by
    obtain ⟨_,o,_,h,_⟩:=hG.at_ he;exact ⟨o,h⟩
  let Inv:(Nat→Bool)→Act→World→Prop:=fun d a w=>a.tmps.size=s.sz∧a.defers=X.ex.df ∧ ∃ S m,Mem X (FH accN d++s.H) S m w∧TmR w S m (FT accN d++s.tm) a
  have hstep:∀ (d:Nat→Bool) (a:Act) (w:World) (j:Nat) (o:Oper),ops[j]? = some o→d j=false→(∀ e∈o.after,Region.binds .any e=true→d e.on=true) →
      (∀ (j:Nat) (oj:Oper) (e:Edge),d j=true→ops[j]? = some oj→e∈oj.after→Region.binds .any e=true→d e.on=true)→Inv d a w →
      ∀ K:Act→World→Prop,(∀ a' w',Inv (fun i=>i == j || d i) a' w'→K a' w')→if Region.wanted o (yielded ops a.tmps)=true then o.wp P a w K Q else K (a.put o.dst undef) w:=by
    intro d a w j o ho hdj hpre hcl hI K hK;obtain ⟨i1,i2,S,m,hM,ht⟩:=hI;have hj:j<accN.length:=by rw [hlen];exact (Array.getElem?_eq_some_iff.1 ho).1
    obtain ⟨pre,e,acc',hacc,hej,hGe,hpreg,hacclt⟩:=hG.split hj;obtain ⟨_,⟨o',out,ho',hout,hps,hef,⟨hd1,hh1⟩,hk1,hv1,hp1⟩,_⟩:=hGe;rw [hej] at ho' hout hk1 hh1 hp1;rw [ho] at ho';injection ho' with ho';subst ho';have hmem:e∈accN:=by rw [hacc];simp
    have hmem':∀ x∈acc',x∈accN:=fun x hx=>by rw [hacc];simp [hx]
    have hmemp:∀ x∈pre,x∈accN:=fun x hx=>by rw [hacc];simp [hx]
    have hd0:∀ i∈tbl.getD j [],d i=true:=P1 d hcl j o ho hpre;have hup:∀ (i:Nat) (oi:Oper),ops[i]? = some oi→d i=true→j ∉ tbl.getD i []:=fun i oi hoi hdi hji=>by
      have:=P1 d hcl i oi hoi (fun e he hb=>hcl i oi e hdi hoi he hb) j hji;rw [hdj] at this;cases this
    have psmem:∀ x∈accN,∀ t,(∃ p∈x.ps,p.1=t) → ∃ ox,ops[x.j]? = some ox∧ox.dst=some t:=by
      rintro x hx t ⟨p,hp,rfl⟩;obtain ⟨_,ox,outx,h2,h3,_⟩:=hG.at_ hx;rw [h3] at hp;refine ⟨ox,h2,?_⟩;cases hdx:ox.dst with
      | none=>rw [hdx] at hp;cases hp
      | some q=>rw [hdx] at hp;simp [putT] at hp;rw [hp]
    -- the slots
    have hT1:∀ t∈nm (fun j=>(ops[j]?).bind (·.dst)) o,gt (FT acc' (fun _=>true)++s.tm) t=gt (FT accN d++s.tm) t:=by
      intro t ht;unfold gt;congr 1
      have e1:lk (FT accN d++s.tm) t=lk (FT accN (fun i=>decide (i<j))++s.tm) t:=FT_congr _ _ _ _ _ fun x hx hk=>by
        obtain ⟨ox,hox,hdx⟩:=psmem x hx t hk;by_cases hxj:x.j=j
        · rw [hxj,hdj];simp
        · rcases D5 j o ho x.j ox t hox hxj hdx (.inl ht) with h | h
          · rw [hd0 _ h];have:=P2 j o ho _ h;simp [this]
          · have h1:=P2 _ ox hox _ h;have h2:d x.j=false:=by
              cases hq:d x.j with
              | false=>rfl
              | true=>exact absurd h (hup _ ox hox hq)
            rw [h2];simp;omega
      rw [e1,hacc,FT_app,List.append_assoc];refine Eq.trans ?_ (lk_skip (x:=FT pre fun i=>decide (i<j)) (fun p hp q=>?_)).symm
      · have e2:FT (e::acc') (fun i=>decide (i<j))=FT acc' (fun i=>decide (i<j)):=by simp [FT,hej]
        rw [e2];exact FT_congr _ _ _ _ _ fun x hx _=>by simp [hacclt x hx]
      · obtain ⟨x,hx,hdx,_⟩:=FT_mem hp;have:=hpreg x hx;simp at hdx;omega
    rw [evG_congr hT1] at hout;rw [altP_congr hT1] at hp1;-- the blocks
    have hAg:Ag (hid (hk.getD j []) (FH acc' (fun i=>inL i (tbl.getD j []))++s.H)) (FH accN d++s.H)∨blind o.op=true:=by
      rcases D4 j o ho with hnb | hb
      · left;intro k b hk;obtain ⟨hk,hkn⟩:=lk_hid hk;have e1:lk (FH accN (fun i=>inL i (tbl.getD j []))++s.H) k=some b:=by
          rw [hacc,FH_app,List.append_assoc,lk_skip (fun p hp q=>?_)]
          · have:inL e.j (tbl.getD j [])=false:=by
              cases hq:inL e.j (tbl.getD j []) with
              | false=>rfl
              | true=>have:=P2 j o ho _ (inL_mem.1 hq);omega
            simp only [FH,List.flatMap_cons,this,Bool.false_eq_true,if_false,List.nil_append];exact hk
          · obtain ⟨x,hx,hdx,_⟩:=FH_mem hp;have h1:=P2 j o ho _ (inL_mem.1 hdx);have:=hpreg x hx;omega
        rw [← e1];refine FH_congr _ _ _ _ _ fun x hx hkx=>?_;cases hq:inL x.j (tbl.getD j []) with
        | true=>exact hd0 _ (inL_mem.1 hq)
        | false =>
          cases hdx:d x.j with
          | false=>rfl
          | true =>
            exfalso;have hnp:x.j ∉ tbl.getD j []:=fun h=>by rw [inL_mem.2 h] at hq;cases hq
            obtain ⟨y,hy,rfl⟩:=hkx;obtain ⟨ox,hox⟩:=opsOf x hx;have hne:j ≠ x.j:=fun h=>by rw [← h,hdj] at hdx;cases hdx
            cases hown:ownK s.ctr x.j y.1 with
            | false =>
              rcases wfact x hx y hy hown j hnb hne with (h | h) | h
              · exact hnp h
              · exact hup _ ox hox hdx h
              · rw [hkn] at h;cases h
            | true =>
              simp only [ownK,Bool.and_eq_true,decide_eq_true_eq] at hown;have hnone:lk s.H y.1=none:=hR.kl _ (by omega);rw [lk_append,hnone] at e1;cases hfx:lk (FH accN (fun i=>inL i (tbl.getD j []))) y.1 with
              | none=>rw [hfx] at e1;cases e1
              | some b' =>
                obtain ⟨x',hx',hdx',hm'⟩:=FH_mem (lk_mem hfx);have hpx':=inL_mem.1 hdx';have hne':x'.j ≠ x.j:=fun h=>hnp (h ▸ hpx');rcases kfact x' hx' _ hm' with h | ⟨_,h | h⟩
                · simp only [ownK,Bool.and_eq_true,decide_eq_true_eq] at h;omega
                · simp only at h;omega
                · have:(y.1-s.ctr) / 8=x.j:=by omega
                  simp only [this] at h;exact hnp (D3 j o ho _ hpx' _ h)
      · exact .inr hb
    have hAlt:∃ o2,evG ty σ (fun j=>(ops[j]?).bind (·.dst)) (FH accN d++s.H) (s.ctr+8*j) (FT accN d++s.tm) o=some o2∧o2.v=out.v∧o2.eff=out.eff∧o2.vc:=by
      rcases alH_cases al j with ⟨e1,e2⟩ | ⟨x,hx,hxj,e1,e2⟩
      · rw [e1] at hout;exact ⟨out,evG_mono hAg hout,rfl,rfl,hv1⟩
      · rw [e1] at hout;rw [e2] at hp1;obtain ⟨a1,a2,a3⟩:=alOK_at hal hx;cases hdc:d x.c with
        | false =>
          refine ⟨out,evG_mono (hAg.imp (fun hAg k b hkb=>?_) id) hout,rfl,rfl,hv1⟩;simp only [List.singleton_append,lk] at hkb;split at hkb
          · rename_i e;subst e;have hno:lk (FH accN d) x.k=none:=lk_none_of fun y hy q=>by
              obtain ⟨z,hz,hdz,hm⟩:=FH_mem hy;have:=a2 _ (neE_mem hz hm);simp only at this
              split at this
              · rename_i e;rw [e,hdc] at hdz;cases hdz
              · exact this y hm q
            rw [lk_append,hno];exact a1.trans hkb
          · exact hAg k b hkb
        | true =>
          obtain ⟨hp1,_⟩:=hp1;split at hp1
          · rename_i o2 ho2;refine ⟨o2,evG_mono (hAg.imp (fun hAg k b hkb=>?_) id) ho2,hp1.1,hp1.2.1,hp1.2.2⟩;simp only [List.singleton_append,lk] at hkb;split at hkb
            · rename_i e;subst e;injection hkb with hkb;subst hkb;have hyes:lk (FH accN d) x.k=some x.b2:=by
                refine lk_all_eq (fun y hy q=>?_) ?_
                · obtain ⟨z,hz,hdz,hm⟩:=FH_mem hy;have:=a2 _ (neE_mem hz hm);simp only at this
                  split at this
                  · rw [this] at hm;rw [List.mem_singleton] at hm;rw [hm]
                  · exact absurd q (this y hm)
                · obtain ⟨y,hy,hyc⟩:=a3;obtain ⟨z,hz,hm⟩:=neE_inv hy;have h9:=a2 _ hy;rw [if_pos hyc] at h9;refine ⟨(x.k,x.b2),?_,rfl⟩;refine FH_in hz ?_ ?_
                  · rw [hm.1,hyc];exact hdc
                  · rw [hm.2,h9];exact List.mem_singleton.2 rfl
              rw [lk_append,hyes]
            · exact hAg k b hkb
          · exact hp1.elim
    obtain ⟨o2,hout',ov,oe,hv2⟩:=hAlt;have hfr:∀ i,i<8→lk (FH accN d++s.H) (s.ctr+8*j+i)=none:=by
      intro i hi;rw [lk_append,lk_none_of fun x hx q=>?_]
      · exact hR.kl _ (by omega)
      · obtain ⟨y,hy,hdy,hm⟩:=FH_mem hx;obtain ⟨oy,hoy⟩:=opsOf y hy;have hne:y.j ≠ j:=fun h=>by rw [h,hdj] at hdy;cases hdy
        rcases kfact y hy x hm with h | ⟨_,h | h⟩
        · simp only [ownK,Bool.and_eq_true,decide_eq_true_eq] at h;omega
        · omega
        · have:(x.1-s.ctr) / 8=j:=by omega
          rw [this] at h;exact hup _ oy hoy hdy h
    refine evG_ok hT hσ hM ht hfr hout' hv2 fun v w' hL=>hK _ _ ?_;obtain ⟨S',m',q1,q2,q3⟩:=hL;rw [oe] at q2;rw [ov] at q3;have hTm:=put_tm (d:=o.dst) (ht.adv q1) (fun t ht=>by rw [i1];exact dOK_at hd1 t ht) q3;have hdisT:∀ x∈putT o.dst out.v [],∀ y∈FT pre d,x.1 ≠ y.1:=by
      intro x hx y hy q;obtain ⟨z,hz,hdz,hm⟩:=FT_mem hy;obtain ⟨oz,hoz,hdt⟩:=psmem z (hmemp z hz) y.1 ⟨y,hm,rfl⟩;have hgt:=hpreg z hz;have hod:o.dst=some y.1:=by
        cases hdo:o.dst with
        | none=>rw [hdo] at hx;cases hx
        | some t=>rw [hdo] at hx;simp [putT] at hx;rw [← q,hx]
      rcases D5 j o ho z.j oz y.1 hoz (by omega) hdt (.inr hod) with h | h
      · have:=P2 j o ho _ h;omega
      · exact hup _ oz hoz hdz h
    have hdisH:∀ x∈out.eff,∀ y∈FH pre d,x.1 ≠ y.1:=by
      intro x hx y hy q;obtain ⟨z,hz,hdz,hm⟩:=FH_mem hy;obtain ⟨oz,hoz⟩:=opsOf z (hmemp z hz);have hgt:=hpreg z hz;have hnotj:j ∉ tbl.getD z.j []:=hup _ oz hoz hdz;have hnotz:z.j ∉ tbl.getD j []:=fun h=>by have:=P2 j o ho _ h;omega
      rw [← hef] at hx;have hxk:=kfact e hmem x hx;have hyk:=kfact z (hmemp z hz) y hm;rw [hej] at hxk;cases hox:ownK s.ctr j x.1 with
      | true =>
        have hox':=hox;simp only [ownK,Bool.and_eq_true,decide_eq_true_eq] at hox';rcases hyk with h | ⟨_,h | h⟩
        · simp only [ownK,Bool.and_eq_true,decide_eq_true_eq] at h;omega
        · omega
        · have:(y.1-s.ctr) / 8=j:=by omega
          rw [this] at h;exact hnotj h
      | false =>
        rcases hxk with h | ⟨hjn,h⟩
        · rw [hox] at h;cases h
        · cases hoy:ownK s.ctr z.j y.1 with
          | false =>
            rcases wfact z (hmemp z hz) y hm hoy j hjn (by omega) with (h' | h') | h'
            · exact hnotz h'
            · exact hnotj h'
            · rw [hef] at hx;have:=List.all_eq_true.1 hh1 x hx;rw [q,h'] at this;cases this
          | true =>
            simp only [ownK,Bool.and_eq_true,decide_eq_true_eq] at hoy;rcases h with h | h
            · omega
            · have:(x.1-s.ctr) / 8=z.j:=by omega
              rw [this] at h;exact hnotz h
    have hd':∀ (acc:List En),(∀ x∈acc,x.j ≠ j)→FT acc (fun i=>i == j || d i)=FT acc d∧FH acc (fun i=>i == j || d i)=FH acc d:=by
      intro acc hx;have:∀ x∈acc,(x.j == j || d x.j)=d x.j:=fun x hxm=>by have:=hx x hxm;simp [this]
      constructor
      · simp only [FT];exact flatMap_cg fun x hxm=>by simp only [this x hxm]
      · simp only [FH];exact flatMap_cg fun x hxm=>by simp only [this x hxm]
    have hp1:=hd' pre fun x hx=>by have:=hpreg x hx;omega
    have hp2:=hd' acc' fun x hx=>by have:=hacclt x hx;omega
    refine ⟨by rw [put_size];exact i1,by rw [put_defers];exact i2,S',m',q2.congr fun k=>?_,fun t=>?_⟩
    · rw [hacc,FH_app,FH_app,hp1.2];simp only [FH,List.flatMap_cons,hej,hdj,Bool.false_eq_true,if_false,List.nil_append,BEq.rfl,Bool.true_or,if_true,List.append_assoc];rw [hef];have:=(hp2.2);simp only [FH] at this;rw [this];exact lk_swap _ _ _ _ hdisH
    · have h1:=hTm t;have h2:gt (putT o.dst out.v (FT accN d++s.tm)) t=gt (FT accN (fun i=>i == j || d i)++s.tm) t:=by
        unfold gt;congr 1
        rw [putT_app,hacc,FT_app,FT_app,hp1.1];simp only [FT,List.flatMap_cons,hej,hdj,Bool.false_eq_true,if_false,List.nil_append,BEq.rfl,Bool.true_or,if_true,List.append_assoc];rw [hps];have:=(hp2.1);simp only [FT] at this;rw [this];exact lk_swap _ _ _ _ hdisT
      rw [← h2];exact h1
  have hfin:∀ (d:Nat→Bool) (a:Act) (w:World),(∀ i,i<ops.size→d i=true)→Inv d a w→Q .normal a w:=by
    intro d a w hd hI;obtain ⟨i1,i2,S,m,hM,ht⟩:=hI;have hall:∀ x∈accN,d x.j=true:=fun x hx=>hd _ (by have:=(hG.at_ hx).1;omega);have e1:FT accN d=FT accN (fun _=>true):=flatMap_cg fun x hx=>by rw [hall x hx]
    have e2:FH accN d=FH accN (fun _=>true):=flatMap_cg fun x hx=>by rw [hall x hx]
    rw [e2] at hM;rw [e1] at ht;refine hQ a w ⟨i1,i2,fun k hk=>?_,S,m,?_,ht⟩
    · simp only at hk ⊢
      rw [allH_neE,lk_append,lk_none_of fun x hx q=>?_]
      · exact hR.kl _ (by omega)
      · obtain ⟨y,hy,_,hm⟩:=FH_mem hx;have hyl:=(hG.at_ hy).1;obtain ⟨oy,hoy⟩:=opsOf y hy;rcases kfact y hy x hm with h | ⟨_,h | h⟩
        · simp only [ownK,Bool.and_eq_true,decide_eq_true_eq] at h;omega
        · omega
        · have:=P2 _ oy hoy _ h;omega
    · simp only
      rw [allH_neE];exact hM
  have h0:Inv (fun i=>(Array.replicate ops.size false).getD i false) a w:=by
    have hf:∀ i,(Array.replicate ops.size false).getD i false=false:=by
      intro i;simp [Array.getD_eq_getD_getElem?,Array.getElem?_replicate];split <;> rfl
    have e1:FT accN (fun i=>(Array.replicate ops.size false).getD i false)=[]:=by simp only [FT,hf];simp
    have e2:FH accN (fun i=>(Array.replicate ops.size false).getD i false)=[]:=by simp only [FH,hf];simp
    refine ⟨hR.size,hR.defers,S0,m0,?_,?_⟩
    · rw [e2];exact hM0
    · rw [e1];exact ht0
  -- the run over all orders
  have hloop:∀ (fuel:Nat) (listed:Array Bool) (a:Act) (w:World),listed.size=ops.size→(List.range ops.size).countP (fun i=>!(listed.getD i false))≤fuel →
      (∀ (j:Nat) (oj:Oper) (e:Edge),listed.getD j false=true→ops[j]? = some oj→e∈oj.after→Region.binds .any e=true→listed.getD e.on false=true) →
      Inv (fun i=>listed.getD i false) a w→wpAny P .any ops Q fuel listed a w:=by
    have hall:∀ listed:Array Bool,listed.size=ops.size→Region.ready .any ops listed=[] → ∀ i,i<ops.size→listed.getD i false=true:=by
      intro listed hsz hr i;induction i using Nat.strongRecOn with
      | _ i ih =>
        intro hi;cases hd:listed.getD i false with
        | true=>rfl
        | false =>
          exfalso;obtain ⟨o,ho⟩:=hopsN i hi;have:i∈Region.ready .any ops listed:=by
            refine mem_ready.2 ⟨?_,o,ho,fun e hee hbe=>ih e.on (D1 i o ho e hee hbe) (by have:=D1 i o ho e hee hbe;omega)⟩;have hlt:i<listed.size:=by omega
            simpa [hlt] using hd
          rw [hr] at this;cases this
    intro fuel;induction fuel with
    | zero =>
      intro listed a w hsz hu _ hI;have hl:∀ i,i<ops.size→listed.getD i false=true:=by
        intro i hi;cases hd:listed.getD i false with
        | true=>rfl
        | false =>
          exfalso;have h0:0<(List.range ops.size).countP (fun i=>!(listed.getD i false)):=List.countP_pos_iff.2 ⟨i,List.mem_range.2 hi,by simp [hd]⟩;omega
      refine ⟨?_,hfin _ a w hl hI⟩;apply List.eq_nil_iff_forall_not_mem.2
      intro j hj;obtain ⟨h1,o,ho,_⟩:=mem_ready.1 hj;have hjl:j<ops.size:=(Array.getElem?_eq_some_iff.1 ho).1;have h2:=hl j hjl;have hlt:j<listed.size:=by omega
      simp [hlt] at h1 h2;rw [h1] at h2;cases h2
    | succ fuel ih =>
      intro listed a w hsz hu hcl hI;refine ⟨fun h0=>hfin _ a w (hall listed hsz h0) hI,fun i hi=>?_⟩;obtain ⟨h1,o,ho,hpre⟩:=mem_ready.1 hi;have hil:i<ops.size:=(Array.getElem?_eq_some_iff.1 ho).1;have hlt:i<listed.size:=by omega
      have hdi:listed.getD i false=false:=by simpa [hlt] using h1
      have hset:∀ j,(listed.setIfInBounds i true).getD j false=(j == i || listed.getD j false):=by
        intro j;by_cases hji:j=i
        · subst hji;simp [hlt]
        · rw [getD_set_ne false (fun e=>hji e.symm)];simp [hji]
      have hcont:∀ a' w',Inv (fun j=>j == i || listed.getD j false) a' w'→wpAny P .any ops Q fuel (listed.setIfInBounds i true) a' w':=by
        intro a' w' hI';refine ih _ a' w' (by simpa using hsz) ?_ ?_ ?_
        · have:(List.range ops.size).countP (fun j=>!((listed.setIfInBounds i true).getD j false))<(List.range ops.size).countP (fun j=>!(listed.getD j false)):=by
            refine countP_lt' (fun x hx=>?_) (List.mem_range.2 hil) (by simp [hdi]) (by rw [hset];simp);rw [hset] at hx;simp only [Bool.not_eq_true',Bool.or_eq_false_iff] at hx ⊢;exact hx.2
          omega
        · intro j oj e hj hoj he hb;rw [hset] at hj ⊢;simp only [Bool.or_eq_true,beq_iff_eq] at hj ⊢;rcases hj with rfl | hj
          · rw [ho] at hoj;injection hoj with hoj;subst hoj;exact .inr (hpre e he hb)
          · exact .inr (hcl j oj e hj hoj he hb)
        · have:(fun j=>(listed.setIfInBounds i true).getD j false)=fun j=>(j == i || listed.getD j false):=funext hset;rw [this];exact hI'
      have hs:=hstep _ a w i o ho hdi hpre hcl hI _ hcont;unfold wpOp;simp only [ho];split
      · rename_i hw;rw [if_pos hw] at hs;exact .inl hs
      · rename_i hw;rw [if_neg hw] at hs;exact hs
  refine hloop ops.size _ a w (by simp) (Nat.le_trans List.countP_le_length (by simp)) (fun j oj e hj hoj _ _=>?_) h0;exfalso;have hjl:j<ops.size:=(Array.getElem?_eq_some_iff.1 hoj).1;simp [hjl] at hj
def EvD3 (ty:Ty) (σ:Sg) (gd:Nat→Option Tmp) (tbl:List (List Nat)) (nb:List Nat) (hk:List (List Nat)) (al:List Alt) (l:List Oper) (n:Nat) (s:St) (K:St→Prop):Prop :=
  match evD3 ty σ gd tbl nb hk al s.H s.ctr s.sz l 0 s.tm [] with
  | some (tm',he',vc)=>wrB2 tbl nb hk s.ctr he'=true∧alOK s.H he' al∧vc∧K ⟨tm',allH he'++s.H,s.ctr+8*n,s.sz⟩
  | none=>False
theorem WA.drawn3 (hm:P.follows .mixedOrders=true) (hT:TysOK P ty) (hσ:SgOK P σ) {Q:Exit→Act→World→Prop} {s:St} {id:Nat} {l:List Oper} {tbl:List (List Nat)} {nb:List Nat} {hk:List (List Nat)} {al:List Alt} (hdr:drB l.toArray tbl nb=true)
    (h:∀ K:St→Prop,(∀ s',(∀ a w,Rel X s' a w→Q .normal a w)→K s')→EvD3 ty σ (fun j=>(l[j]?).bind (·.dst)) tbl nb hk al l l.length s K):WA P X (.region id l.toArray true) Q s:=by
  intro a w hR;have h1:=h (fun s'=>∀ a w,Rel X s' a w→Q .normal a w) (fun _ h=>h);unfold EvD3 at h1;split at h1
  · rename_i tm' he' vc he;obtain ⟨q1,q0,q2,q3⟩:=h1;refine wp_region_any hm (drawn3_ok (X:=X) (s:=s) hT hσ hdr (vc:=vc) (tm':=tm') (he':=he') ?_ q2 q1 q0 (by simpa using q3) (Rel.drew hR));rw [← he];congr 1
    funext j
    simp
  · exact h1.elim
theorem WA.drawnA (hm:P.follows .mixedOrders=true) (hT:TysOK P ty) (hσ:SgOK P σ) {Q:Exit→Act→World→Prop} {s:St} {id:Nat} {l:List Oper} {y:Code} {tbl:List (List Nat)} {nb:List Nat} {hk:List (List Nat)} {al:List Alt} (hdr:drB l.toArray tbl nb=true)
    (h:∀ K:St→Prop,(∀ s',WA P X y Q s'→K s')→EvD3 ty σ (fun j=>(l[j]?).bind (·.dst)) tbl nb hk al l l.length s K):WA P X (.seq (.region id l.toArray true) y) Q s :=
  WA.seq (WA.drawn3 hm hT hσ hdr fun K hK=>h K fun s' hs=>hK s' hs)
end
attribute [go_sem] evD3 EvD3 alH alT altP alOK alC
def FnA (P:Program) (f:FuncId) (args ls xs ls':List AV):Prop :=
  ∀ (w:World) (S:CSet) (rows:Nat→Row) (vs:Array Value),(∀ b o,S b o→b<w.heap.size)→GLw w S→vs.size=args.length →
    (∀ (j:Nat) (x:AV) (v:Value),args[j]? = some x→vs[j]? = some v→VR w S (mL ls.length rows) x v) →
    (∀ p c,ls[p]? = some c→BR w S (mL ls.length rows) (fun _ g=>g<w.heap.size) ⟨c,0,true⟩ (rows p)∧0<(rows p).cap) →
    (∀ p q,p<ls.length→q<ls.length→(rows p).g=(rows q).g→p=q) →
    Calls P f vs w fun e w'=>∃ v S' m',e = .returned v∧Mem (cxF w S ls.length rows ls') ((rcvL 1000 xs).2++lentF ls.length ls') S' m' w'∧VR w' S' m' (.agg (rcvL 1000 xs).1) v
def FQA (P:Program) (X:Cx) (fn:Func) (xs ls':List AV):Exit→Act→World→Prop
  | .ret,a,w=>Leaves P fn a.tmps (fun e w'=>∃ v S' m',e = .returned v∧Mem (cxF X.w0 X.S0 X.nl X.rows ls') ((rcvL 1000 xs).2++lentF X.nl ls') S' m' w'∧VR w' S' m' (.agg (rcvL 1000 xs).1) v) a.defers .returning w
  | _,_,_=>False
section
variable {P:Program} {ty:Ty} {X:Cx} {σ:Sg} {Q:Exit→Act→World→Prop} {H:List (Nat × Blk)} {S:CSet} {m:RMap} {w:World}
theorem aggVR {S':CSet} {m' m'':RMap} {w':World} {fr:Nat} {xs:List AV} {v:Value} (hr:RT (.tup xs)) (hm:∀ a∈frA fr 1000 (.tup xs),∀ q,m' a.q=some q→m'' a.k=some q) (h:VR w' S' m' (.agg (rcvL 1000 xs).1) v):VR w' S' m'' (.agg (rcvL fr xs).1) v:=by
  unfold RT at hr;unfold frA at hm;obtain ⟨cs,rfl,hl,hp⟩:=h.agg_inv;refine .agg (by rw [hl,rcvL_len,rcvL_len]) fun j x u hx hu=>?_;rw [rcvL_at] at hx;obtain ⟨y,h1,rfl⟩:=Option.map_eq_some_iff.1 hx;refine rcvP_VR (hr y (List.mem_of_getElem? h1)) (fun c q e hq=>?_) (hp j (rcvP (1000+j) y).1 u (by rw [rcvL_at,h1];rfl) hu);subst e;exact hm _ (frL_has xs fr 1000 j c h1) q hq
theorem FnA.of {f:FuncId} {fn:Func} {c:Code} {args ls xs ls':List AV} (hf:P.funcs[f]? = some fn) (hb:fn.body=some c) {N:Nat} (hN:fn.ntmps=N) (hn:args.length≤N) (hls:ls.length≤2000)
    (h:∀ X:Cx,X.nl=ls.length→X.ex = .nil→WA P X c (FQA P X fn xs ls') ⟨tmArgs args 0,lentH ls 0,2000,N⟩):FnA P f args ls xs ls':=by
  subst hN;intro w S rows vs hslt hgl hvs hargs hlent hinj;let X:Cx:=⟨w,S,ls.length,rows,.nil,.inl rfl⟩
  have hM:Mem X (lentH ls 0) S (mL ls.length rows) w:=by
    refine ⟨fun p hp=>by simp only [mL];rw [if_pos (show p<ls.length from hp)],⟨rfl,rfl,rfl,Nat.le_refl _,fun _ _ _=>rfl,fun _ _ q=>q.elim,Nat.zero_le _⟩,fun _ _ q=>q,fun _ _ q=>.inl q,hslt,fun k hk=>?_,fun k b hk=>?_,fun k k' b b' q q' h1 h2 h3 h4 _ _ _ _ h9=>?_,⟨hgl,fun _ _ _ q=>q.elim⟩⟩
    · rcases Nat.lt_or_ge k ls.length with hlt | hge
      · have:=lentH_lk ls 0 k _ (List.getElem?_eq_getElem hlt);rw [Nat.zero_add,hk] at this;cases this
      · simp only [mL];rw [if_neg (by omega)]
    · obtain ⟨hlt,rfl⟩:=lentH_some hk;refine ⟨rows k,by simp only [mL];rw [if_pos hlt],fun _=>?_⟩;obtain ⟨hB,hc⟩:=hlent k (ls.getD k .any) (by simp [List.getD,List.getElem?_eq_getElem hlt]);exact ⟨hB.es,hB.len,hB.max,hB.rd,hB.set,fun hm hc=>by
        obtain ⟨_,q2,q3⟩:=hB.row hm hc;exact ⟨by show X.lent _;exact ⟨k,hlt,rfl⟩,q2,q3⟩⟩
    · obtain ⟨a1,_⟩:=lentH_some h1;obtain ⟨a2,_⟩:=lentH_some h2;simp only [mL,if_pos a1] at h3;simp only [mL,if_pos a2] at h4;injection h3 with h3;injection h4 with h4;subst h3 h4;exact hinj k k' a1 a2 h9
  have hR:Rel X ⟨tmArgs args 0,lentH ls 0,2000,fn.ntmps⟩ { tmps:=vs++Array.replicate (fn.ntmps-vs.size) undef,defers:=[] } w:=by
    refine ⟨by simp;omega,rfl,fun k hk=>lentH_none ls 0 k (.inr (by have:2000≤k:=hk;omega)),S,mL ls.length rows,hM,fun t=>?_⟩;have e:=tmArgs_lk args 0 t;rw [Nat.zero_add] at e;simp only [gt,e];cases ht:args[t]? with
    | none=>exact .any _
    | some x =>
      have hlt:t<vs.size:=by rw [hvs];exact (List.getElem?_eq_some_iff.1 ht).1
      have e2:(vs++Array.replicate (fn.ntmps-vs.size) undef).getD t undef=vs[t]:=by
        rw [Array.getD_eq_getD_getElem?,Array.getElem?_append_left hlt,Array.getElem?_eq_getElem hlt];rfl
      rw [e2];exact hargs t x _ ht (Array.getElem?_eq_getElem hlt)
  refine calls_of_wp_defers hf hb (wp_mono (h X rfl rfl _ w hR) fun e a w' hq=>?_);cases e with
  | ret=>exact hq
  | _=>exact hq.elim
theorem exitA (hT:TysOK P ty) {s:St} {a:Act} (hR:∃ S m,Mem X.plain s.H S m w∧TmR w S m s.tm a) {fn:Func} {ys zs xs:List AV} {e:List (Nat × Blk)} {ls':List AV} {v0 v1:Prop} (hres:resA ty s.H s.tm fn.results.toList=some ([.agg ys],v0)) (hv0:v0) (hfz:fzL s.H ys xs=some (zs,e,v1)) (hv1:v1)
    (hfr:frs (e++s.H) zs xs) (hnd:(frks zs xs).Nodup) (hln:lnt (e++s.H) ls' 0) (hnl:X.nl=ls'.length∨ls'=[]) (h1000:X.nl<1000) :
    ∃ v,(results fn a.tmps).run P w = .ok v w ∧ ∃ S' m',Mem X.plain ((rcvL 1000 xs).2++lentF X.nl ls') S' m' w∧VR w S' m' (.agg (rcvL 1000 xs).1) v:=by
  obtain ⟨S,m,hM,ht⟩:=hR;obtain ⟨us,u1,u2,u3⟩:=resA_ok hT hM ht _ [.agg ys] v0 hres hv0;obtain ⟨u,rfl⟩:=List.length_eq_one_iff.1 u2;obtain ⟨cs,rfl,a2',a3'⟩:=(u3 0 _ _ rfl rfl).agg_inv;obtain ⟨vs,hvs⟩:∃ vs,vs=cs.toList:=⟨_,rfl⟩;have a2:vs.length=ys.length:=by rw [hvs];simpa using a2'
  have a3:∀ (j:Nat) (x:AV) (v:Value),ys[j]? = some x→vs[j]? = some v→VR w S m x v:=fun j x v h1 h2=>a3' j x v h1 (by rw [hvs] at h2;simpa using h2);obtain ⟨S1,b1,b2,b3,b4,b5,b6⟩:=fzL_ok ys xs s.H S zs e v1 vs hM a3 a2 hfz hv1;let ρ:Nat→Nat:=fun k=>if k<1000 then k else kOf (zs.getD (k-1000) .any)
  have hcase:∀ k b,lk ((rcvL 1000 xs).2++lentF X.nl ls') k=some b→(∃ j c y,k=1000+j∧xs[j]? = some (.fr c)∧b=⟨fc c,0,false⟩∧zs[j]? = some y∧ρ k=kOf y∧y=fv (kOf y) c∧lk (e++s.H) (kOf y)=some ⟨fc c,0,false⟩∧TrC (fc c)) ∨
      (k<1000∧k<X.nl∧ρ k=k∧lk (e++s.H) k=some b∧b.ln=true∧TrC b.c)∨(b.mode=3∧ρ k=k ∧ ∃ b0,lk (e++s.H) k=some b0):=by
    intro k b hk;rcases rcvL_inv _ _ _ _ _ hk with ⟨j,c,h1,h2,h3⟩ | h
    · left;have hj:j<zs.length:=by rw [b3,← b4];exact (List.getElem?_eq_some_iff.1 h2).1
      have hy:=getD_of_lt (d:=AV.any) hj;obtain ⟨q1,q2,q3⟩:=frs_at zs xs j _ c hfr hy h2;exact ⟨j,c,zs.getD j .any,h1,h2,h3,hy,by simp only [ρ,h1];rw [if_neg (by omega),Nat.add_sub_cancel_left],q1,q2,q3⟩
    · right;rcases hnl with hnl | rfl
      case inr =>
        cases hn:X.nl with
        | zero=>rw [hn] at h;cases h
        | succ n =>
          rw [hn] at h;have h:lk (lentZ (n+1)) k=some b:=h;rw [lentZ_lk] at h;split at h
          · rename_i hk;injection h with h;subst h;refine .inr ⟨rfl,by simp only [ρ];rw [if_pos (by omega)],?_⟩;cases hq:lk (e++s.H) k with
            | some b0=>exact ⟨b0,rfl⟩
            | none =>
              have h1:=b1.dom k hq;rw [b1.lm k (by show k<X.nl;omega)] at h1;cases h1
          · cases h
      left;rw [lentF_eq hnl.symm] at h;obtain ⟨h1,rfl⟩:=lentH_some h;have:=lnt_at ls' 0 k _ hln (List.getElem?_eq_getElem h1);rw [Nat.zero_add] at this;have e1:ls'.getD k .any=ls'[k]:=by simp [List.getD,List.getElem?_eq_getElem h1]
      rw [e1];exact ⟨by omega,by omega,by simp only [ρ];rw [if_pos (by omega)],this.1,rfl,this.2⟩
  obtain ⟨m',hM',hm'⟩:=b1.weakG ρ (H':=(rcvL 1000 xs).2++lentF X.nl ls') (fun p hp=>by
    have hp:p<X.nl:=hp;refine ⟨by simp only [ρ];rw [if_pos (by omega)],?_⟩;rw [rcvL_lo _ _ _ _ (by omega)];rcases hnl with hnl | rfl
    · rw [lentF_lk hp (List.getElem?_eq_getElem (by omega))];rfl
    · cases hn:X.nl with
      | zero=>omega
      | succ n =>
        show (lk (lentZ (n+1)) p).isSome=true;rw [lentZ_lk,if_pos (by omega)];rfl) (fun k k' b b' h1 h2 hm1 hm2 he=>by
    rcases hcase k b h1 with ⟨j,c,y,p1,p2,p3,p4,p5,p6,p7,p8⟩ | ⟨p1,p2,p3,p4,p5,p6⟩ | ⟨p1,_⟩ <;> rcases hcase k' b' h2 with ⟨j',c',y',r1,r2,r3,r4,r5,r6,r7,r8⟩ | ⟨r1,r2,r3,r4,r5,r6⟩ | ⟨r1,_⟩
    case inr.inr.inl=>omega
    case inr.inr.inr.inl=>omega
    case inr.inr.inr.inr=>omega
    case inl.inr.inr=>omega
    case inr.inl.inr.inr=>omega
    · have:=frks_inj zs xs j j' y y' c c' hnd p4 p2 r4 r2 (by rw [← p5,← r5];exact he);omega
    · exfalso;rw [p5,r3] at he;rw [he,r4] at p7;injection p7 with p7;rw [p7] at r5;cases r5
    · exfalso;rw [p3,r5] at he;rw [← he,p4] at r7;injection r7 with r7;rw [r7] at p5;cases p5
    · rw [p3,r3] at he;exact he) (fun k b hk=>by
    rcases hcase k b hk with ⟨j,c,y,p1,p2,p3,p4,p5,p6,p7,p8⟩ | ⟨p1,p2,p3,p4,p5,p6⟩ | ⟨p1,p2,b0,p3⟩
    · exact ⟨_,by rw [p5];exact p7,fun _=>by rw [p3];exact .tr p8⟩
    · exact ⟨b,by rw [p3];exact p4,fun _=>.tr p6⟩
    · exact ⟨b0,by rw [p2];exact p3,fun h=>by omega⟩)
  have hpart:∀ (j:Nat) (x:AV) (v:Value),xs[j]? = some x→vs[j]? = some v→VR w S1 m' (rcvP (1000+j) x).1 v:=by
    intro j x v hx hv;have hj:j<zs.length:=by rw [b3,← b4];exact (List.getElem?_eq_some_iff.1 hx).1
    have hz:=getD_of_lt (d:=AV.any) hj;have hzv:=b5 j _ v hz hv;unfold rcvP;split
    · rename_i c;obtain ⟨q1,q2,q3⟩:=frs_at zs xs j _ c hfr hz hx;have hlk:=rcvL_lk xs 1000 j c (lentF X.nl ls') hx;have hk:∀ r,m (kOf (zs.getD j .any))=some r→m' (1000+j)=some r:=by
        intro r h1;rw [hm' _ _ hlk];simp only [ρ];rw [if_neg (by omega),Nat.add_sub_cancel_left];exact h1
      rw [q1] at hzv;revert hzv;generalize kOf (zs.getD j .any)=kk at hk;intro hzv;unfold fv at hzv ⊢;split at hzv
      · cases hzv with
        | ptr h1=>exact .ptr (hk _ h1)
      · obtain ⟨r,A,h1,h2,h3,h4,h5,h6,rfl⟩:=hzv.sl_inv;exact .sl (hk _ h1) h2 h3 h4 h5 h6
    · rename_i hne;obtain ⟨q1,q2⟩:=b6 j x hx (fun c h=>hne c h);rw [hz] at q1;injection q1 with q1;rw [q1] at hzv;exact q2 _ _ _ _ hzv m'
  have hlen:vs.length=xs.length:=by rw [a2,b4]
  have hresults:(results fn a.tmps).run P w = .ok (.agg cs) w:=by
    have e1:(fn.results.mapM (resV a.tmps)).run P w = .ok #[.agg cs] w:=by
      rw [Array.mapM_eq_mapM_toList];simp [u1]
    show ((fn.results.mapM (resV a.tmps) >>= fun vs=>pure (if h:vs.size=1 then vs[0] else .tuple vs):Sem Value)).run P w=_;rw [Sem.run_bind,e1];rfl
  refine ⟨_,hresults,S1,m',hM',.agg (by rw [rcvL_len,← hlen,hvs];simp) fun j y u hy hu=>?_⟩;rw [rcvL_at] at hy;obtain ⟨z,h1,rfl⟩:=Option.map_eq_some_iff.1 hy;exact hpart j z u h1 (by rw [hvs];simpa using hu)
theorem WA.retA (hT:TysOK P ty) {s:St} {fn:Func} {rv:List ResultVar} {xs ls':List AV} (hE:X.ex = .nil) (hrv:fn.results.toList=rv) (hnl:X.nl=ls'.length) (h1000:ls'.length<1000)
    (h:match resA ty s.H s.tm rv with
      | some ([.agg ys],v0)=>match fzL s.H ys xs with
        | some (zs,e,v1)=>v0∧v1∧frs (e++s.H) zs xs∧(frks zs xs).Nodup∧lnt (e++s.H) ls' 0
        | none=>False
      | _=>False):WA P X .ret (FQA P X fn xs ls') s:=WA.ret fun a w hR=>by
  split at h
  · rename_i ys v0 h1;split at h
    · rename_i zs e v1 h2;obtain ⟨q1,q2,q3,q4,q5⟩:=h;obtain ⟨S,m,hM,ht⟩:=hR.mem;have hd:a.defers=[]:=by rw [hR.defers,hE];rfl
      obtain ⟨v,h1,S',m',h2,h3⟩:=exitA hT (s:=s) ⟨S,m,hM.plain,ht⟩ (by rw [hrv];exact h1) q1 h2 q2 q3 q4 q5 (.inl hnl) (by omega);obtain ⟨w0,S0,nl,rows,ex,ed⟩:=X;obtain rfl:ex = .nil:=hE;show Leaves P fn a.tmps _ a.defers .returning w;rw [hd];exact ⟨v,h1,v,S',m',rfl,Mem.toF h2 _,h3⟩
    · exact h.elim
  · exact h.elim
theorem call_coreA (hM:Mem X H S m w) {ks:List Nat} (h1000:ks.length<1000) {bs:List Blk} {rows:Nat→Row} (hlen:bs.length=ks.length) (hks:∀ p k,ks[p]? = some k → ∃ b,bs[p]? = some b∧lk H k=some b∧m k=some (rows p)∧b.mode=0∧0<cN b.c∧TrC b.c) (hnd:ks.Nodup)
    {f:FuncId} {args xs ls':List AV} (hS:FnA P f args (bs.map (·.c)) xs ls') (hls:ls'.length=ks.length∨(ls'=[] ∧ ∀ b∈bs,b.ln=false)) (hlt:∀ c∈ls',TrC c) (hr:RT (.tup xs)) {fr:Nat} (hfr:∀ i,i<nFr (.tup xs)→lk H (fr+i)=none)
    {vs:Array Value} (hvs:vs.size=args.length) (hargs:∀ (j:Nat) (x:AV) (v:Value),args[j]? = some x→vs[j]? = some v→VR w S (mL ks.length rows) x v) :
    Calls P f vs w fun e w'=>∃ v S' m2,e = .returned v∧Adv S m w S' m2 w'∧Mem X (adH (lentAds ks bs ls' 0++frA fr 1000 (.tup xs)) (gvn ks ls'++H)) S' m2 w'∧VR w' S' m2 (.agg (rcvL fr xs).1) v:=by
  have hbl:(bs.map (·.c)).length=ks.length:=by simp [hlen]
  have hat:∀ p,p<ks.length → ∃ k b,ks[p]? = some k∧bs[p]? = some b∧lk H k=some b∧m k=some (rows p)∧b.mode=0∧0<cN b.c∧TrC b.c∧BR w S m X.own b (rows p)∧0<(rows p).cap:=by
    intro p hp;obtain ⟨b,h1,h2,h3,h4,h5,h6⟩:=hks p _ (List.getElem?_eq_getElem hp);obtain ⟨r',h7,h8⟩:=hM.blk _ _ h2;rw [h3] at h7;injection h7 with h7;subst h7;have hB:=h8 (by omega);have:=hB.len;exact ⟨_,b,List.getElem?_eq_getElem hp,h1,h2,h3,h4,h5,h6,hB,by omega⟩
  refine (hS w S rows vs hM.slt hM.gl.g hvs (by rw [hbl];exact hargs) (fun p c hc=>?_) (fun p q hp hq he=>?_)).mono ?_
  · rw [List.getElem?_map] at hc;obtain ⟨b,h1,rfl⟩:=Option.map_eq_some_iff.1 hc;have hp:p<ks.length:=by rw [← hlen];exact (List.getElem?_eq_some_iff.1 h1).1
    obtain ⟨k,b',h2,h3,h4,h5,h6,h7,h8,h9,h10⟩:=hat p hp;rw [h1] at h3;injection h3 with h3;subst h3;obtain ⟨bc,bm,bl⟩:=b;simp only at h6
    subst h6;exact ⟨h9.tr h8 fun _ _ _=>hM.lt h4 h5 (by simp) h10,h10⟩
  · rw [hbl] at hp hq;obtain ⟨k,b,h2,h3,h4,h5,h6,h7,h8,h9,h10⟩:=hat p hp;obtain ⟨k',b',h2',h3',h4',h5',h6',h7',h8',h9',h10'⟩:=hat q hq;have hkk:=hM.inj k k' b b' _ _ h4 h4' h5 h5' (by omega) (by omega) h10 h10' he;subst hkk;exact (List.getElem?_inj hp hnd).1 (h2.trans h2'.symm)
  · rintro e w' ⟨v,S',m',rfl,C,hv⟩;rw [hbl] at C;obtain ⟨r,hrr⟩:∃ r,r=AV.tup xs:=⟨_,rfl⟩;have hr0:=hr;have hr:RT r:=hrr ▸ hr;have C:Mem (cxF w S ks.length rows ls') ((rcv 1000 r).2++lentF ks.length ls') S' m' w':=by rw [hrr];exact C
    have hfr:∀ i,i<nFr r→lk H (fr+i)=none:=by rw [hrr];exact hfr
    rw [← hrr];clear hS;have hm':∀ p,p<ks.length→m' p=some (rows p):=C.lm;have hlent:∀ g,lentSet ks.length rows g → ∀ j bj rj,lk H j=some bj→m j=some rj→bj.mode≤1→0<rj.cap→j ∉ ks→rj.g ≠ g:=by
      rintro g ⟨p,hp,rfl⟩ j bj rj h1 h2 h3 h4 hj;obtain ⟨k,b,q2,q3,q4,q5,q6,q7,q8,q9,q10⟩:=hat p hp;exact hM.apart q4 q5 (by omega) q10 h1 h2 h3 h4 (fun e=>hj (e ▸ List.mem_of_getElem? q2))
    have hSl:∀ b o,S b o → ¬ lentSet ks.length rows b:=by
      rintro b o hs ⟨p,hp,rfl⟩;obtain ⟨k,b,q2,q3,q4,q5,q6,q7,q8,q9,q10⟩:=hat p hp;exact (q9.row (by omega) q10).2.2 o (.inl q6) hs
    have hst:∀ b o,S b o→S' b o∧w'.cell? ⟨b,o,none⟩=w.cell? ⟨b,o,none⟩:=fun b o hs=>⟨C.s0 b o hs,cell_of_heap (C.frm.block b (hM.slt b o hs) (hSl b o hs)) o⟩;have hsz:w.heap.size≤w'.heap.size:=C.frm.size;have hxsz:X.w0.heap.size≤w.heap.size:=hM.frm.size;have hnotlent:∀ g,g<X.w0.heap.size → ¬ X.lent g → ¬ lentSet ks.length rows g:=by
      rintro g hg hl ⟨p,hp,rfl⟩;obtain ⟨k,b,q2,q3,q4,q5,q6,q7,q8,q9,q10⟩:=hat p hp;rcases own_cases (q9.row (by omega) q10).1 with h | h
      · omega
      · exact hl h
    have hfrm:Frm X w':=⟨C.frm.os.trans hM.frm.os,C.frm.tape.trans hM.frm.tape,C.frm.output.trans hM.frm.output,by omega,fun g hg hl=>(C.frm.block g (by show g<w.heap.size;omega) (hnotlent g hg hl)).trans (hM.frm.block g hg hl),
      fun g x hm=>(C.frm.block g (Array.getElem?_eq_some_iff.1 (hM.frm.mark g x hm)).1 (by
        rintro ⟨p,hp,rfl⟩;obtain ⟨k,b,q2,q3,q4,q5,q6,q7,q8,q9,q10⟩:=hat p hp;obtain ⟨_,⟨cur,T,q11,_⟩,_⟩:=q9.row (by omega) q10;have h1:w.heap[(rows p).g]? = some x:=hM.frm.mark _ x hm;rw [q11] at h1;injection h1 with h1;have h2:=X.ex.nc _ x hm;rw [← h1] at h2;cases h2)).trans (hM.frm.mark g x hm),Nat.le_trans hM.frm.lo hsz⟩
    have hgv:(cxF w S ks.length rows ls').ex.gv=true→ls'=[] ∧ ∀ b∈bs,b.ln=false:=fun h=>by
      rcases hls with hls | hls
      · exfalso;have:(exF ks.length ls').gv=false:=by
          rw [← hls];cases ls' <;> rfl
        have h:(exF ks.length ls').gv=true:=h;rw [this] at h;cases h
      · exact hls
    have hs1:∀ b o,S' b o→X.S0 b o∨X.mine b:=fun b o hs=>by
      rcases C.s1 b o hs with h | h | ⟨h,p,hp,rfl⟩
      · exact hM.s1 b o h
      · exact .inr (.inl (by have:w.heap.size≤b:=h;omega))
      · obtain ⟨k,b,q2,q3,q4,q5,q6,q7,q8,q9,q10⟩:=hat p hp;have h1:=(q9.row (by omega) q10).1;rw [(hgv h).2 b (List.mem_of_getElem? q3)] at h1;exact .inr h1
    have hMd:=(hM.drops ks (fun k hk=>by
      obtain ⟨p,hp,e⟩:=List.getElem_of_mem hk;obtain ⟨b,_,h2,_⟩:=hks p k (by rw [← e];exact List.getElem?_eq_getElem hp);exact ⟨b,h2⟩)).world hst hfrm hs1 C.slt (fun j bj rj h1 h2 h3 h4=>by
      rw [dropH_lk] at h1;split at h1
      · injection h1 with h1;subst h1;simp at h3
      · rename_i hj;have hg:=hM.lt h1 h2 h3 h4;refine ⟨C.frm.block _ hg (fun hl=>hlent _ hl j bj rj h1 h2 h3 h4 hj rfl),fun o ho=>?_⟩;rcases C.s1 _ o ho with h | h | ⟨_,h⟩
        · exact h
        · have:w.heap.size≤rj.g:=h;omega
        · exact absurd rfl (hlent _ h j bj rj h1 h2 h3 h4 hj))
    have hq:∀ a∈lentAds ks bs ls' 0++frA fr 1000 r,∃ ln,lk ((rcv 1000 r).2++lentF ks.length ls') a.q=some ⟨a.c,0,ln⟩∧((a.q<1000∧ks[a.q]? = some a.k)∨(1000≤a.q∧a.k=fr+(a.q-1000))):=by
      intro a ha;rcases List.mem_append.1 ha with ha | ha
      · obtain ⟨i,b,h1,h2,h3,h4,h5⟩:=lentAds_mem _ _ _ _ _ ha;have hi:i<ks.length:=(List.getElem?_eq_some_iff.1 h1).1;rw [Nat.zero_add] at h4;have hlk:=lentF_lk hi h3;exact ⟨true,by rw [h4,rcv_lo _ (by omega)];exact hlk,.inl ⟨by omega,by rw [h4];exact h1⟩⟩
      · obtain ⟨i,hi,e1,e2,e3⟩:=frA_mem ha;exact ⟨false,rcv_lk (lentF ks.length ls') ha,.inr ⟨by omega,by rw [e1,e2];omega⟩⟩
    have had:=adopt (m':=m') (lentAds ks bs ls' 0++frA fr 1000 r) (dropH ks H) m hMd (fun a ha=>?_) ?_ (fun a ha b hb ra rb h1 h2 h3 h4 h5=>?_)
    · obtain ⟨m2,q1,q2,q3⟩:=had;refine ⟨v,S',m2,rfl,⟨hst,q2⟩,?_,aggVR hr0 (fun a ha q hq=>q3 a (by rw [← hrr] at ha;simp [ha]) q hq) hv⟩;refine q1.congr fun j=>adH_congr _ _ _ j ?_;rcases hls with hls | ⟨rfl,_⟩
      · rw [gvn_nil hls,List.nil_append,dropH_lk];split
        · rename_i hj;right;rw [List.map_append,List.mem_append];exact .inl (lentAds_has ks bs ls' 0 hlen hls j hj)
        · exact .inl rfl
      · left;show lk (dropH ks H) j=lk (dropH ks []++H) j;rw [← dropH_app]
    · rcases List.mem_append.1 ha with ha | ha
      · obtain ⟨i,b,h1,h2,h3,h4,h5⟩:=lentAds_mem _ _ _ _ _ ha;have hi:i<ks.length:=(List.getElem?_eq_some_iff.1 h1).1;rw [Nat.zero_add] at h4;obtain ⟨k,b',p2,p3,p4,p5,p6,p7,p8,p9,p10⟩:=hat i hi;rw [h1] at p2;injection p2 with p2;rw [h2] at p3;injection p3 with p3;subst p3;have hlk:=lentF_lk hi h3;have hblk:lk ((rcv 1000 r).2++lentF ks.length ls') i=some ⟨a.c,0,true⟩:=by
          rw [rcv_lo _ (by omega)];exact hlk
        obtain ⟨r',e1,e2⟩:=C.blk i _ hblk;rw [hm' i hi] at e1;injection e1 with e1;subst e1;refine ⟨rows i,by rw [h4];exact hm' i hi,.inr (by rw [p2];exact p5),fun m2=>?_,fun j bj rj hj f1 f2 f3 f4 _=>?_⟩
        · refine (e2 (by simp)).tr (hlt _ (List.mem_of_getElem? h3)) fun _ _ _=>?_;rw [h5];exact (p9.row (by omega) p10).1
        · rw [dropH_lk] at f1;split at f1
          · injection f1 with f1;subst f1;simp at f3
          · rename_i hjk;exact hlent _ ⟨i,hi,rfl⟩ j bj rj f1 f2 f3 f4 hjk
      · obtain ⟨i,hi,e1,e2,e3⟩:=frA_mem ha;have hlk:=rcv_lk (lentF ks.length ls') ha;obtain ⟨r',e4,e5⟩:=C.blk _ _ hlk;have hB:=e5 (by simp);have hge:0<r'.cap→w.heap.size≤r'.g∨(ls'=[]∧lentSet ks.length rows r'.g):=fun hc=>((hB.row (by simp) hc).1).imp id fun q=>⟨(hgv q.1).1,q.2⟩;refine ⟨r',e4,.inl ?_,fun m2=>?_,fun j bj rj hj f1 f2 f3 f4 f5=>?_⟩
        · refine hMd.dom _ ?_;rw [dropH_lk,if_neg ?_]
          · rw [e1];exact hfr i hi
          · intro hk;obtain ⟨p,hp,e⟩:=List.getElem_of_mem hk;obtain ⟨b,_,h2,_⟩:=hks p a.k (by rw [← e];exact List.getElem?_eq_getElem hp);rw [e1,hfr i hi] at h2;cases h2
        · refine hB.tr (RT_frA hr ha) fun _ hc _=>?_;rw [e3];show X.mine r'.g;rcases hge hc with h | ⟨hl,p,hp,hpg⟩
          · exact .inl (Nat.le_trans hxsz h)
          · obtain ⟨k,b,q2,q3,q4,q5,q6,q7,q8,q9,q10⟩:=hat p hp;have h1:=(q9.row (by omega) q10).1;rcases hls with hls | hls
            · exfalso;rw [hl] at hls;have:ks.length=0:=hls.symm;omega
            · rw [hls.2 b (List.mem_of_getElem? q3),hpg] at h1;exact h1
        · rw [dropH_lk] at f1;split at f1
          · injection f1 with f1;subst f1;simp at f3
          · rename_i hjk;have:=hM.lt f1 f2 f3 f4;rcases hge f5 with h | ⟨_,h⟩
            · omega
            · exact hlent _ h j bj rj f1 f2 f3 f4 hjk
    · rw [List.map_append,List.nodup_append];refine ⟨(lentAds_keys ks bs ls' 0).nodup hnd,frA_keys fr r,fun k hk k' hk' e=>?_⟩;subst e;have hk1:=(lentAds_keys ks bs ls' 0).subset hk;obtain ⟨p,hp,e⟩:=List.getElem_of_mem hk1;obtain ⟨b,_,h2,_⟩:=hks p k (by rw [← e];exact List.getElem?_eq_getElem hp);obtain ⟨a,ha,rfl⟩:=List.mem_map.1 hk';obtain ⟨i,hi,e1,_⟩:=frA_mem ha;rw [e1,hfr i hi] at h2;cases h2
    · obtain ⟨la,g1,g2⟩:=hq a ha;obtain ⟨lb,g3,g4⟩:=hq b hb;have hqq:=C.inj a.q b.q _ _ ra rb g1 g3 h1 h2 (by simp) (by simp) h3 h4 h5;rcases g2 with ⟨g5,g6⟩ | ⟨g5,g6⟩ <;> rcases g4 with ⟨g7,g8⟩ | ⟨g7,g8⟩
      · rw [hqq,g8] at g6;injection g6 with g6;exact g6.symm
      · omega
      · omega
      · rw [g6,g8,hqq]
theorem WL.callA {ops:Array Oper} {s:St} {o:Oper} {r:List Oper} {f a0 d:Nat} {ats:Array TypeId} {b:Blk} {c1 c' y:AV} (h1:o.op = .call ⟨.value (.func f),#[.tmp a0],ats⟩) (g1:o.guard=none) (e1:o.dst=some d) (hd:d<s.sz) (hf:FnOK P f)
    (x1:gt s.tm a0 = .ptr 0 0 0) (hb:lk s.H 0=some b) (hm:b.mode=0) (hc:0<cN b.c) (hcE:TrC b.c) (hc':TrC c') (hS:FnA P f [.ptr 0 0 0] [b.c] [.fr c1,y] [c']) (hr1:TrC (fc c1)) (hr2:Tr y) (hy:∀ c,y ≠ .fr c)
    (h:WL P X ops Q r ⟨(d,.agg [fv s.ctr c1,y])::s.tm,(s.ctr,⟨fc c1,0,false⟩)::(0,⟨c',0,b.ln⟩)::s.H,s.ctr+8,s.sz⟩):WL P X ops Q (o::r) s:=fun a w hR=>by
  refine wpList_step fun K hK=>?_;rw [if_pos (by simp [Region.wanted,g1])];unfold Oper.wp;obtain ⟨S,m,hM,ht⟩:=hR.mem;obtain ⟨fn,cd,hfs,hnm,hbody⟩:=hf;have hv:VR w S m (.ptr 0 0 0) (a.eval (.tmp a0)):=by
    have:=ht a0;rw [x1] at this;exact this
  obtain ⟨row,hrow,_⟩:=hM.blk 0 b hb;obtain ⟨u,hu⟩:∃ u,a.eval (.tmp a0)=u:=⟨_,rfl⟩;rw [hu] at hv;have hv2:VR w S (mL 1 fun _=>row) (.ptr 0 0 0) u:=by
    cases hv with
    | ptr q =>
      rw [hrow] at q;injection q with q;subst q;exact .ptr rfl
  have hrun:(execOp a.eval o).run P w = .ok (.enter f #[u]) w:=by
    unfold execOp;rw [h1];have e0:a.eval (.func f) = .func (.func f) #[] #[]:=rfl;have e2:(#[Operand.tmp a0]:Array Operand).map a.eval = #[u]:=by simp [hu]
    simp only [resolve,Sem.run_bind,e0,e2,Deferred.ofValue,invoke];have:=run_enter hfs hnm hbody #[u] w;simpa using this
  rw [hrun];have hy2:rcvP (s.ctr+1) y=(y,[]):=by
    unfold rcvP;split
    · rename_i c;exact absurd rfl (hy c)
    · rfl
  have hy3:frP (s.ctr+1) 1001 y=[]:=by
    unfold frP;split
    · rename_i c;exact absurd rfl (hy c)
    · rfl
  have hRT:RT (.tup [.fr c1,y]):=by
    intro x hx;simp only [List.mem_cons,List.not_mem_nil,or_false] at hx;rcases hx with rfl | rfl
    · exact hr1
    · unfold RT1;split
      · rename_i c;exact absurd rfl (hy c)
      · exact hr2
  refine (call_coreA (ks:=[0]) (bs:=[b]) (rows:=fun _=>row) (fr:=s.ctr) hM (by decide) rfl (fun p k hk=>?_) (by simp) (args:=[.ptr 0 0 0]) (xs:=[.fr c1,y]) (ls':=[c']) hS (.inl rfl) (fun c hc=>by simp only [List.mem_singleton] at hc;subst hc;exact hc') hRT (fun i _=>hR.kl _ (Nat.le_add_right _ _)) rfl (fun j x v hx hv=>?_)).mono ?_
  · match p,hk with
    | 0,hk =>
      simp only [List.getElem?_cons_zero,Option.some.injEq] at hk;subst hk;exact ⟨b,rfl,hb,hrow,hm,hc,hcE⟩
    | p+1,hk=>simp at hk
  · match j,hx,hv with
    | 0,hx,hv =>
      simp at hx hv;subst hx hv;exact hv2
    | j+1,hx,hv=>simp at hx
  · rintro e w' ⟨v,S',m2,rfl,q1,q2,q3⟩;have e2:adH (lentAds [0] [b] [c'] 0++frA s.ctr 1000 (.tup [.fr c1,y])) (gvn [0] [c']++s.H)=(s.ctr,⟨fc c1,0,false⟩)::(0,⟨c',0,b.ln⟩)::s.H:=by
      simp only [lentAds,frA,frL,hy3,frP,gvn,List.append_nil,List.nil_append,List.cons_append,adH]
    rw [e2] at q2;have e3:(rcvL s.ctr [.fr c1,y]).1=[fv s.ctr c1,y]:=by simp only [rcvL,hy2,rcvP]
    rw [e3] at q3;refine hK _ _ (h _ _ ⟨by rw [put_size];exact hR.size,by rw [put_defers];exact hR.defers,fun k hk=>?_,S',m2,q2,?_⟩)
    · have hk:s.ctr+8≤k:=hk;have h0:k ≠ 0:=fun e=>by
        subst e;have:=hR.kl 0 (by omega);rw [hb] at this;cases this
      show lk ((s.ctr,⟨fc c1,0,false⟩)::(0,⟨c',0,b.ln⟩)::s.H) k=none;simp only [lk];rw [if_neg (by omega),if_neg h0];exact hR.kl k (by omega)
    · have:=put_tm (d:=o.dst) (v:=v) (x:=.agg [fv s.ctr c1,y]) (ht.adv q1) (fun t q=>by rw [e1] at q;cases q;rw [hR.size];exact hd) q3;rw [e1] at this ⊢;exact this
end
end Go.TravelAbs
