import Derived.Test.YtjjkfpbkmhfckaaGreatDoorK03
import Derived.Orders
set_option linter.unusedVariables false
set_option linter.unusedSimpArgs false
set_option maxHeartbeats 1000000
set_option maxRecDepth 10000
namespace Go.TravelAbs
open Go.RowKit Go.TravelBase
def mL (n:Nat) (rows:Nat→Row):RMap:=fun k=>if k<n then some (rows k) else none
def lentH:List AV→Nat→List (Nat × Blk)
  | [],_=>[]
  | c::r,p=>(p,⟨c,0,true⟩)::lentH r (p+1)
def lentZ:Nat→List (Nat × Blk)
  | 0=>[]
  | n+1=>(n,⟨.any,3,true⟩)::lentZ n
def lentF (n:Nat) (ls':List AV):List (Nat × Blk) :=
  match n,ls' with
  | 0,_=>[]
  | n+1,[]=>lentZ (n+1)
  | _+1,c::r=>lentH (c::r) 0
def exF (n:Nat) (ls':List AV):Ext :=
  match n,ls' with
  | 0,_=>.nil
  | _+1,[]=>.nilG true
  | _+1,_::_=>.nil
theorem exF_df (n:Nat) (ls':List AV):(exF n ls').df=[]:=by
  unfold exF;split <;> rfl
def cxF (w:World) (S:CSet) (n:Nat) (rows:Nat→Row) (ls':List AV):Cx:=⟨w,S,n,rows,exF n ls',.inl (exF_df n ls')⟩
def fc:AV→AV
  | .opt _ c=>c
  | c=>c
def fv (k:Nat):AV→AV
  | .opt _ _=>.ptr k 0 0
  | c=>.sl k (cE c) 0 (cN c)
def rcvP (fr:Nat) (x:AV):AV × List (Nat × Blk) :=
  match x with
  | .fr c=>(fv fr c,[(fr,⟨fc c,0,false⟩)])
  | x=>(x,[])
def rcvL (fr:Nat):List AV→List AV × List (Nat × Blk)
  | []=>([],[])
  | x::r=>((rcvP fr x).1::(rcvL (fr+1) r).1,(rcvP fr x).2++(rcvL (fr+1) r).2)
def rcv (fr:Nat) (r:AV):AV × List (Nat × Blk) :=
  match r with
  | .tup xs=>(.tup (rcvL fr xs).1,(rcvL fr xs).2)
  | x=>rcvP fr x
def lentSet (n:Nat) (rows:Nat→Row) (g:Nat):Prop:=∃ p,p<n∧(rows p).g=g
def FnS (P:Program) (f:FuncId) (args ls:List AV) (r:AV) (ls':List AV):Prop :=
  ∀ (w:World) (S:CSet) (rows:Nat→Row) (vs:Array Value),(∀ b o,S b o→b<w.heap.size)→GLw w S→vs.size=args.length →
    (∀ (j:Nat) (x:AV) (v:Value),args[j]? = some x→vs[j]? = some v→VR w S (mL ls.length rows) x v) →
    (∀ p c,ls[p]? = some c→BR w S (mL ls.length rows) (fun _ g=>g<w.heap.size) ⟨c,0,true⟩ (rows p)∧0<(rows p).cap) →
    (∀ p q,p<ls.length→q<ls.length→(rows p).g=(rows q).g→p=q) →
    Calls P f vs w fun e w'=>∃ v S' m',e = .returned v∧Mem (cxF w S ls.length rows ls') ((rcv 1000 r).2++lentF ls.length ls') S' m' w'∧VR w' S' m' (rcv 1000 r).1 v
def FnE (P:Program) (f:FuncId) (args ls:List AV) {I:Type} (p:I→Prop) (r:I→AV) (ls':I→List AV):Prop :=
  ∀ (w:World) (S:CSet) (rows:Nat→Row) (vs:Array Value),(∀ b o,S b o→b<w.heap.size)→GLw w S→vs.size=args.length →
    (∀ (j:Nat) (x:AV) (v:Value),args[j]? = some x→vs[j]? = some v→VR w S (mL ls.length rows) x v) →
    (∀ p c,ls[p]? = some c→BR w S (mL ls.length rows) (fun _ g=>g<w.heap.size) ⟨c,0,true⟩ (rows p)∧0<(rows p).cap) →
    (∀ p q,p<ls.length→q<ls.length→(rows p).g=(rows q).g→p=q) →
    Calls P f vs w fun e w'=>∃ i,p i ∧ ∃ v S' m',e = .returned v∧Mem (cxF w S ls.length rows (ls' i)) ((rcv 1000 (r i)).2++lentF ls.length (ls' i)) S' m' w'∧VR w' S' m' (rcv 1000 (r i)).1 v
theorem FnS.toE {P:Program} {f:FuncId} {args ls:List AV} {r:AV} {ls':List AV} (h:FnS P f args ls r ls') {I:Type} {p:I→Prop} {r':I→AV} {ls2:I→List AV} (i:I) (hp:p i) (h1:r' i=r) (h2:ls2 i=ls'):FnE P f args ls p r' ls2:=by
  subst h1 h2;exact fun w S rows vs a g b c d e=>(h w S rows vs a g b c d e).mono fun _ _ h=>⟨i,hp,h⟩
theorem FnE.mono {P:Program} {f:FuncId} {args ls:List AV} {I J:Type} {p:I→Prop} {r:I→AV} {ls':I→List AV} {q:J→Prop} {r':J→AV} {ls2:J→List AV} (h:FnE P f args ls p r ls') (hm:∀ i,p i → ∃ j,q j∧r' j=r i∧ls2 j=ls' i):FnE P f args ls q r' ls2:=by
  refine fun w S rows vs a g b c d e=>(h w S rows vs a g b c d e).mono fun _ _ ⟨i,hi,h⟩=>?_;obtain ⟨j,h1,h2,h3⟩:=hm i hi;exact ⟨j,h1,by rw [h2,h3];exact h⟩
section
variable {P:Program} {ty:Ty} {X:Cx} {H:List (Nat × Blk)} {S:CSet} {m:RMap} {w:World}
theorem Mem.world (h:Mem X H S m w) {S':CSet} {w':World} (hst:∀ b o,S b o→S' b o∧w'.cell? ⟨b,o,none⟩=w.cell? ⟨b,o,none⟩) (hfrm:Frm X w') (hs1:∀ b o,S' b o→X.S0 b o∨X.mine b) (hslt:∀ b o,S' b o→b<w'.heap.size)
    (hk:∀ j bj rj,lk H j=some bj→m j=some rj→bj.mode≤1→0<rj.cap→w'.heap[rj.g]? = w.heap[rj.g]? ∧ ∀ o,S' rj.g o→S rj.g o):Mem X H S' m w' :=
  ⟨h.lm,hfrm,fun b o h0=>(hst _ _ (h.s0 b o h0)).1,hs1,hslt,h.dom,fun j bj hj=>by
    obtain ⟨rj,h1,h2⟩:=h.blk j bj hj;exact ⟨rj,h1,fun hm=>(h2 hm).keep hst (fun _ _ q=>q) fun hm1 hc=>hk j bj rj hj h1 hm1 hc⟩,h.inj,h.gl.mono hst⟩
def TrC (c:AV):Prop:=∀ i,i<cN c → ∀ y∈(cAt c i).cl,Tr y
theorem TrC.by_ (bs:List UInt8):TrC (.by_ bs):=fun i hi y hy=>by
  simp only [cAt,cl_bA,List.mem_singleton] at hy;subst hy;exact Tr.lit _
theorem TrC.li {es:Nat} {xs:List AV} (h:∀ x∈xs,∀ y∈x.cl,Tr y):TrC (.li es xs):=fun i hi y hy=>h (xs.getD i .any) (List.mem_of_getElem? (getD_of_lt (d:=AV.any) hi)) y hy
theorem BR.tr {S:CSet} {m m':RMap} {own own':Bool→Nat→Prop} {c:AV} {md:Nat} {ln ln':Bool} {r:Row} (h:BR w S m own ⟨c,md,ln⟩ r) (ht:TrC c) (ho:md≤1→0<r.cap→own ln r.g→own' ln' r.g):BR w S m' own' ⟨c,md,ln'⟩ r :=
  ⟨h.es,h.len,h.max,fun i hi=>by
    obtain ⟨h1,h2⟩:=h.rd i hi;refine ⟨h1,fun j y hy=>?_⟩;obtain ⟨u,h3,h4⟩:=h2 j y hy;exact ⟨u,h3,ht i hi y (List.mem_of_getElem? hy) _ _ _ _ h4 m'⟩,h.set,fun hm hc=>by
    obtain ⟨q1,q2,q3⟩:=h.row hm hc;exact ⟨ho hm hc q1,q2,q3⟩⟩
structure Ad where
  k:Nat
  q:Nat
  c:AV
  ln:Bool
def adH:List Ad→List (Nat × Blk)→List (Nat × Blk)
  | [],H=>H
  | a::r,H=>adH r ((a.k,⟨a.c,0,a.ln⟩)::H)
theorem adopt {m':RMap} {w':World} {S':CSet} :
    ∀ (l:List Ad) (H:List (Nat × Blk)) (m:RMap),Mem X H S' m w' →
      (∀ a∈l,∃ r,m' a.q=some r∧(m a.k=none∨m a.k=some r)∧(∀ m2,BR w' S' m2 X.own ⟨a.c,0,a.ln⟩ r) ∧ ∀ j bj rj,j ≠ a.k→lk H j=some bj→m j=some rj→bj.mode≤1→0<rj.cap→0<r.cap→rj.g ≠ r.g) →
      (l.map (·.k)).Nodup→(∀ a∈l,∀ b∈l,∀ r r',m' a.q=some r→m' b.q=some r'→0<r.cap→0<r'.cap→r.g=r'.g→a.k=b.k) →
      ∃ m2,Mem X (adH l H) S' m2 w'∧(∀ k r,m k=some r→m2 k=some r) ∧ ∀ a∈l,∀ r,m' a.q=some r→m2 a.k=some r
  | [],H,m,hM,_,_,_=>⟨m,hM,fun _ _ h=>h,fun a ha=>by cases ha⟩
  | a::l,H,m,hM,hl,hnd,hinj=>by
    obtain ⟨r,h1,h2,h3,h4⟩:=hl a (by simp);have hle:=mset_le (k:=a.k) (r:=r) h2;have hM1:Mem X ((a.k,⟨a.c,0,a.ln⟩)::H) S' (mset m a.k r) w' :=
      hM.upd (S':=S') (w':=w') a.k ⟨a.c,0,a.ln⟩ r h2 (fun _ _ h=>⟨h,rfl⟩) hM.frm hM.s1 hM.slt (fun j bj rj hj h5 h6 h7 h8=>⟨rfl,fun _ q=>q,fun _ h9=>h4 j bj rj hj h5 h6 h7 h8 h9⟩) (fun _=>h3 _)
    rw [List.map_cons,List.nodup_cons] at hnd;obtain ⟨m2,q1,q2,q3⟩:=adopt l ((a.k,⟨a.c,0,a.ln⟩)::H) (mset m a.k r) hM1 (fun b hb=>by
      obtain ⟨r',h5,h6,h7,h8⟩:=hl b (by simp [hb]);have hne:b.k ≠ a.k:=fun e=>hnd.1 (e ▸ List.mem_map.2 ⟨b,hb,rfl⟩);refine ⟨r',h5,by simp only [mset,if_neg hne];exact h6,h7,fun j bj rj hj h9 h10 h11 h12 h13=>?_⟩;simp only [lk] at h9;split at h9
      · rename_i e;subst e;simp only [mset,if_true] at h10;injection h10 with h10;subst h10;exact fun e=>hj (hinj a (by simp) b (by simp [hb]) r r' h1 h5 h12 h13 e)
      · rename_i hja;simp only [mset,if_neg hja] at h10;exact h8 j bj rj hj h9 h10 h11 h12 h13) hnd.2 (fun x hx y hy=>hinj x (by simp [hx]) y (by simp [hy]))
    refine ⟨m2,q1,fun k r' hk=>q2 k r' (hle k r' hk),fun b hb r' hb'=>?_⟩;rcases List.mem_cons.1 hb with rfl | hb
    · rw [h1] at hb';injection hb' with hb';subst hb';exact q2 _ _ (by simp [mset])
    · exact q3 b hb r' hb'
def frP (fr q:Nat):AV→List Ad
  | .fr c=>[⟨fr,q,fc c,false⟩]
  | _=>[]
def frL (fr q:Nat):List AV→List Ad
  | []=>[]
  | x::r=>frP fr q x++frL (fr+1) (q+1) r
def frA (fr q:Nat) (r:AV):List Ad :=
  match r with
  | .tup xs=>frL fr q xs
  | x=>frP fr q x
def RT1:AV→Prop
  | .fr c=>TrC (fc c)
  | x=>Tr x
def RT (r:AV):Prop :=
  match r with
  | .tup xs=>∀ x∈xs,RT1 x
  | x=>RT1 x
def nFr:AV→Nat
  | .tup xs=>xs.length
  | _=>1
theorem frL_mem:∀ (xs:List AV) (fr q:Nat) (a:Ad),a∈frL fr q xs → ∃ i,i<xs.length∧a.k=fr+i∧a.q=q+i∧(∃ c,xs[i]? = some (.fr c)∧a.c=fc c)∧a.ln=false
  | [],_,_,_,h=>by cases h
  | x::r,fr,q,a,h=>by
    simp only [frL,List.mem_append] at h;rcases h with h | h
    · unfold frP at h;split at h
      · simp only [List.mem_singleton] at h;subst h;exact ⟨0,by simp,rfl,rfl,⟨_,rfl,rfl⟩,rfl⟩
      · cases h
    · obtain ⟨i,h1,h2,h3,h4,h5⟩:=frL_mem r (fr+1) (q+1) a h;exact ⟨i+1,by simp;omega,by omega,by omega,by simpa using h4,h5⟩
theorem frL_has:∀ (xs:List AV) (fr q i:Nat) (c:AV),xs[i]? = some (.fr c)→(⟨fr+i,q+i,fc c,false⟩:Ad)∈frL fr q xs
  | [],_,_,_,_,h=>by simp at h
  | x::r,fr,q,0,c,h=>by
    simp only [List.getElem?_cons_zero,Option.some.injEq] at h;subst h;simp [frL,frP]
  | x::r,fr,q,i+1,c,h=>by
    have:=frL_has r (fr+1) (q+1) i c (by simpa using h);simp only [frL,List.mem_append];right;rw [show fr+(i+1)=fr+1+i by omega,show q+(i+1)=q+1+i by omega];exact this
theorem rcvL_lk:∀ (xs:List AV) (fr i:Nat) (c:AV) (L:List (Nat × Blk)),xs[i]? = some (.fr c)→lk ((rcvL fr xs).2++L) (fr+i)=some ⟨fc c,0,false⟩
  | [],_,_,_,_,h=>by simp at h
  | x::r,fr,0,c,L,h=>by
    simp only [List.getElem?_cons_zero,Option.some.injEq] at h;subst h;simp [rcvL,rcvP,lk]
  | x::r,fr,i+1,c,L,h=>by
    have:=rcvL_lk r (fr+1) i c L (by simpa using h);have e:lk ((rcvL fr (x::r)).2++L) (fr+(i+1))=lk ((rcvL (fr+1) r).2++L) (fr+(i+1)):=by
      simp only [rcvL];unfold rcvP;split
      · simp only [List.cons_append,List.nil_append,lk];rw [if_neg (by omega)]
      · simp
    rw [e,show fr+(i+1)=fr+1+i by omega];exact this
theorem rcvL_lo:∀ (xs:List AV) (fr k:Nat) (L:List (Nat × Blk)),k<fr→lk ((rcvL fr xs).2++L) k=lk L k
  | [],_,_,_,_=>rfl
  | x::r,fr,k,L,h=>by
    simp only [rcvL];unfold rcvP;split
    · simp only [List.cons_append,List.nil_append,lk];rw [if_neg (by omega)];exact rcvL_lo r (fr+1) k L (by omega)
    · simp only [List.nil_append];exact rcvL_lo r (fr+1) k L (by omega)
theorem lentH_lk:∀ (ls:List AV) (p i:Nat) (c:AV),ls[i]? = some c→lk (lentH ls p) (p+i)=some ⟨c,0,true⟩
  | [],_,_,_,h=>by simp at h
  | x::r,p,0,c,h=>by
    simp only [List.getElem?_cons_zero,Option.some.injEq] at h;subst h;simp [lentH,lk]
  | x::r,p,i+1,c,h=>by
    have:=lentH_lk r (p+1) i c (by simpa using h);simp only [lentH,lk];rw [if_neg (by omega),show p+(i+1)=p+1+i by omega];exact this
theorem lentF_eq {n:Nat} {ls':List AV} (h:ls'.length=n):lentF n ls'=lentH ls' 0:=by
  subst h;cases ls' <;> rfl
theorem lentF_lk {n i:Nat} {ls':List AV} {c:AV} (hi:i<n) (h:ls'[i]? = some c):lk (lentF n ls') i=some ⟨c,0,true⟩:=by
  cases n with
  | zero=>omega
  | succ n =>
    cases ls' with
    | nil=>simp at h
    | cons x r =>
      have:=lentH_lk (x::r) 0 i c h;rw [Nat.zero_add] at this;exact this
theorem lentZ_lk:∀ (n k:Nat),lk (lentZ n) k=if k<n then some ⟨.any,3,true⟩ else none
  | 0,k=>rfl
  | n+1,k=>by
    simp only [lentZ,lk];rw [lentZ_lk n k];by_cases h:k=n
    · subst h;simp
    · rw [if_neg h];by_cases h2:k<n
      · rw [if_pos h2,if_pos (by omega)]
      · rw [if_neg h2,if_neg (by omega)]
theorem rcv_lk {r:AV} {a:Ad} {fr:Nat} (L:List (Nat × Blk)) (h:a∈frA fr 1000 r):lk ((rcv 1000 r).2++L) a.q=some ⟨a.c,0,false⟩:=by
  unfold frA at h;unfold rcv;split at h
  · obtain ⟨i,h1,h2,h3,h4,h5⟩:=frL_mem _ _ _ _ h;obtain ⟨c,h4,h6⟩:=h4;rw [h3,h6];exact rcvL_lk _ _ _ _ _ h4
  · rename_i hne;unfold frP at h;split at h
    · simp only [List.mem_singleton] at h;subst h;simp [rcvP,lk]
    · cases h
theorem rcv_lo {r:AV} {k:Nat} (L:List (Nat × Blk)) (h:k<1000):lk ((rcv 1000 r).2++L) k=lk L k:=by
  unfold rcv;split
  · exact rcvL_lo _ _ _ _ h
  · unfold rcvP;split
    · simp only [List.cons_append,List.nil_append,lk];rw [if_neg (by omega)]
    · rfl
theorem rcvP_VR {S':CSet} {m' m'':RMap} {w':World} {fr q:Nat} {x:AV} {v:Value} (hx:RT1 x) (hm:∀ c r,x = .fr c→m' q=some r→m'' fr=some r) (h:VR w' S' m' (rcvP q x).1 v):VR w' S' m'' (rcvP fr x).1 v:=by
  unfold rcvP at h ⊢;split at h
  · rename_i c;have hm2:∀ r,m' q=some r→m'' fr=some r:=fun r=>hm c r rfl;unfold fv at h ⊢;split at h
    · cases h with
      | ptr h1=>exact .ptr (hm2 _ h1)
    · obtain ⟨r,A,h1,h2,h3,h4,h5,h6,rfl⟩:=h.sl_inv;exact .sl (hm2 r h1) h2 h3 h4 h5 h6
  · rename_i hne;have ht:Tr x:=by
      unfold RT1 at hx;split at hx
      · rename_i c;exact absurd rfl (hne c)
      · exact hx
    exact ht _ _ _ _ h m''
theorem rcvL_len:∀ (xs:List AV) (fr:Nat),(rcvL fr xs).1.length=xs.length
  | [],_=>rfl
  | x::r,fr=>by simp [rcvL,rcvL_len r (fr+1)]
theorem rcvL_at:∀ (xs:List AV) (fr i:Nat),(rcvL fr xs).1[i]? = (xs[i]?).map fun x=>(rcvP (fr+i) x).1
  | [],_,_=>by simp [rcvL]
  | x::r,fr,0=>by simp [rcvL]
  | x::r,fr,i+1=>by
    simp only [rcvL,List.getElem?_cons_succ];rw [rcvL_at r (fr+1) i,show fr+(i+1)=fr+1+i by omega]
theorem rcv_VR {S':CSet} {m' m'':RMap} {w':World} {fr:Nat} {r:AV} {v:Value} (hr:RT r) (hm:∀ a∈frA fr 1000 r,∀ q,m' a.q=some q→m'' a.k=some q) (h:VR w' S' m' (rcv 1000 r).1 v):VR w' S' m'' (rcv fr r).1 v:=by
  unfold rcv at h ⊢;unfold RT at hr;unfold frA at hm;split at h
  · rename_i xs;obtain ⟨cs,rfl,hl,hp⟩:=h.tup_inv;refine .tup (by rw [hl,rcvL_len,rcvL_len]) fun j x u hx hu=>?_;rw [rcvL_at] at hx;obtain ⟨y,h1,rfl⟩:=Option.map_eq_some_iff.1 hx;refine rcvP_VR (hr y (List.mem_of_getElem? h1)) (fun c q e hq=>?_) (hp j (rcvP (1000+j) y).1 u (by rw [rcvL_at,h1];rfl) hu);subst e;exact hm _ (frL_has xs fr 1000 j c h1) q hq
  · rename_i hne;have hr':RT1 r:=by
      split at hr
      · rename_i xs;exact absurd rfl (hne xs)
      · exact hr
    refine rcvP_VR hr' (fun c q e hq=>?_) h;subst e;exact hm ⟨fr,1000,fc c,false⟩ (by simp [frP]) q hq
end
end Go.TravelAbs
namespace Go.TravelAbs
open Go.RowKit Go.TravelBase
def lentAds:List Nat→List Blk→List AV→Nat→List Ad
  | k::ks,b::bs,c::cs,p=>⟨k,p,c,b.ln⟩::lentAds ks bs cs (p+1)
  | _,_,_,_=>[]
theorem lentAds_mem:∀ (ks:List Nat) (bs:List Blk) (cs:List AV) (p:Nat) (a:Ad),a∈lentAds ks bs cs p → ∃ i b,ks[i]? = some a.k∧bs[i]? = some b∧cs[i]? = some a.c∧a.q=p+i∧a.ln=b.ln
  | k::ks,b::bs,c::cs,p,a,h=>by
    simp only [lentAds,List.mem_cons] at h;rcases h with rfl | h
    · exact ⟨0,b,by simp,by simp,by simp,rfl,rfl⟩
    · obtain ⟨i,b',h1,h2,h3,h4,h5⟩:=lentAds_mem ks bs cs (p+1) a h;exact ⟨i+1,b',by simpa using h1,by simpa using h2,by simpa using h3,by omega,h5⟩
  | [],_,_,_,_,h=>by simp [lentAds] at h
  | _::_,[],_,_,_,h=>by simp [lentAds] at h
  | _::_,_::_,[],_,_,h=>by simp [lentAds] at h
theorem lentAds_keys:∀ (ks:List Nat) (bs:List Blk) (cs:List AV) (p:Nat),((lentAds ks bs cs p).map (·.k)).Sublist ks
  | k::ks,b::bs,c::cs,p=>by
    simp only [lentAds,List.map_cons];exact (lentAds_keys ks bs cs (p+1)).cons_cons k
  | [],_,_,_=>by simp [lentAds]
  | _::_,[],_,_=>by simp [lentAds]
  | _::_,_::_,[],_=>by simp [lentAds]
theorem frL_keys:∀ (xs:List AV) (fr q:Nat),((frL fr q xs).map (·.k)).Nodup ∧ ∀ k∈(frL fr q xs).map (·.k),fr≤k
  | [],fr,q=>by simp [frL]
  | x::r,fr,q=>by
    obtain ⟨h1,h2⟩:=frL_keys r (fr+1) (q+1);simp only [frL];unfold frP;split
    · simp only [List.cons_append,List.nil_append,List.map_cons,List.nodup_cons];refine ⟨⟨fun h=>by have:=h2 _ h;omega,h1⟩,fun k hk=>?_⟩;rcases List.mem_cons.1 hk with rfl | hk
      · exact Nat.le_refl _
      · have:=h2 k hk;omega
    · simp only [List.nil_append];exact ⟨h1,fun k hk=>by have:=h2 k hk;omega⟩
theorem frA_mem {fr:Nat} {r:AV} {a:Ad} (h:a∈frA fr 1000 r):∃ i,i<nFr r∧a.k=fr+i∧a.q=1000+i∧a.ln=false:=by
  unfold frA at h;split at h
  · obtain ⟨i,h1,h2,h3,_,h5⟩:=frL_mem _ _ _ _ h;exact ⟨i,h1,h2,h3,h5⟩
  · rename_i hne;unfold frP at h;split at h
    · simp only [List.mem_singleton] at h;subst h;exact ⟨0,by simp [nFr],rfl,rfl,rfl⟩
    · cases h
theorem frA_keys (fr:Nat) (r:AV):((frA fr 1000 r).map (·.k)).Nodup:=by
  unfold frA;split
  · exact (frL_keys _ _ _).1
  · unfold frP;split <;> simp
theorem RT_frA {fr:Nat} {r:AV} (hr:RT r) {a:Ad} (h:a∈frA fr 1000 r):TrC a.c:=by
  unfold frA at h;unfold RT at hr;split at h
  · obtain ⟨i,h1,h2,h3,h4,_⟩:=frL_mem _ _ _ _ h;obtain ⟨c,h4,h6⟩:=h4;have:=hr _ (List.mem_of_getElem? h4);rw [h6];exact this
  · rename_i hne;unfold frP at h;split at h
    · simp only [List.mem_singleton] at h;subst h;simp only [RT1] at hr;exact hr
    · cases h
def dropH:List Nat→List (Nat × Blk)→List (Nat × Blk)
  | [],H=>H
  | k::ks,H=>(k,⟨.any,3,false⟩)::dropH ks H
theorem dropH_lk:∀ (ks:List Nat) (H:List (Nat × Blk)) (j:Nat),lk (dropH ks H) j=if j∈ks then some ⟨.any,3,false⟩ else lk H j
  | [],H,j=>by simp [dropH]
  | k::ks,H,j=>by
    simp only [dropH,lk,List.mem_cons];by_cases h:j=k
    · simp [h]
    · rw [if_neg h,dropH_lk ks H j];simp [h]
section
variable {P:Program} {ty:Ty} {X:Cx} {H:List (Nat × Blk)} {S:CSet} {m:RMap} {w:World}
theorem Mem.drops (h:Mem X H S m w):∀ (ks:List Nat),(∀ k∈ks,∃ b,lk H k=some b)→Mem X (dropH ks H) S m w
  | [],_=>h
  | k::ks,hk=>by
    have ih:=Mem.drops h ks (fun j hj=>hk j (by simp [hj]));obtain ⟨b,hb⟩:=hk k (by simp);obtain ⟨r,hr,_⟩:=h.blk k b hb;have hb':∃ b',lk (dropH ks H) k=some b':=by
      rw [dropH_lk];split
      · exact ⟨_,rfl⟩
      · exact ⟨b,hb⟩
    obtain ⟨b',hb'⟩:=hb';exact ih.drop hb' hr .any
theorem dropH_app:∀ (ks:List Nat) (H:List (Nat × Blk)),dropH ks H=dropH ks []++H
  | [],_=>rfl
  | k::ks,H=>by
    simp only [dropH,List.cons_append];rw [dropH_app ks H]
def gvn (ks:List Nat):List AV→List (Nat × Blk)
  | []=>dropH ks []
  | _::_=>[]
theorem gvn_nil {ks:List Nat} {ls:List AV} (h:ls.length=ks.length):gvn ks ls=[]:=by
  cases ls with
  | nil=>cases ks with
    | nil=>rfl
    | cons k ks=>simp at h
  | cons c r=>rfl
theorem Mem.congr {H':List (Nat × Blk)} (h:Mem X H S m w) (e:∀ k,lk H k=lk H' k):Mem X H' S m w :=
  ⟨h.lm,h.frm,h.s0,h.s1,h.slt,fun k hk=>h.dom k ((e k).trans hk),fun k b hk=>h.blk k b ((e k).trans hk),fun k k' b b' r r' h1 h2=>h.inj k k' b b' r r' ((e k).trans h1) ((e k').trans h2),h.gl⟩
theorem adH_congr:∀ (l:List Ad) (H H':List (Nat × Blk)) (j:Nat),lk H j=lk H' j∨j∈l.map (·.k)→lk (adH l H) j=lk (adH l H') j
  | [],H,H',j,h=>by simpa [adH] using h
  | a::l,H,H',j,h=>by
    simp only [adH];refine adH_congr l _ _ j ?_;simp only [lk];by_cases hj:j=a.k
    · left;rw [if_pos hj,if_pos hj]
    · rw [if_neg hj,if_neg hj];rcases h with h | h
      · exact .inl h
      · right;simp only [List.map_cons,List.mem_cons] at h;exact h.resolve_left hj
theorem lentAds_has:∀ (ks:List Nat) (bs:List Blk) (cs:List AV) (p:Nat),bs.length=ks.length→cs.length=ks.length → ∀ k∈ks,k∈(lentAds ks bs cs p).map (·.k)
  | [],_,_,_,_,_,k,h=>by cases h
  | x::ks,[],_,_,h,_,_,_=>by simp at h
  | x::ks,_::_,[],_,_,h,_,_=>by simp at h
  | x::ks,b::bs,c::cs,p,h1,h2,k,h=>by
    simp only [lentAds,List.map_cons,List.mem_cons];rcases List.mem_cons.1 h with h | h
    · exact .inl h
    · exact .inr (lentAds_has ks bs cs (p+1) (by simpa using h1) (by simpa using h2) k h)
theorem call_coreE (hM:Mem X H S m w) {ks:List Nat} (h1000:ks.length<1000) {bs:List Blk} {rows:Nat→Row} (hlen:bs.length=ks.length) (hks:∀ p k,ks[p]? = some k → ∃ b,bs[p]? = some b∧lk H k=some b∧m k=some (rows p)∧b.mode=0∧0<cN b.c∧TrC b.c) (hnd:ks.Nodup)
    {f:FuncId} {args:List AV} {I:Type} {pI:I→Prop} {r:I→AV} {ls':I→List AV} (hS:FnE P f args (bs.map (·.c)) pI r ls') (hls:∀ i,pI i→(ls' i).length=ks.length∨(ls' i=[] ∧ ∀ b∈bs,b.ln=false)) (hlt:∀ i,pI i → ∀ c∈ls' i,TrC c) (hr:∀ i,pI i→RT (r i)) {fr:Nat} (hfr:∀ i,pI i → ∀ q,q<nFr (r i)→lk H (fr+q)=none)
    {vs:Array Value} (hvs:vs.size=args.length) (hargs:∀ (j:Nat) (x:AV) (v:Value),args[j]? = some x→vs[j]? = some v→VR w S (mL ks.length rows) x v) :
    Calls P f vs w fun e w'=>∃ i,pI i ∧ ∃ v S' m2,e = .returned v∧Adv S m w S' m2 w'∧Mem X (adH (lentAds ks bs (ls' i) 0++frA fr 1000 (r i)) (gvn ks (ls' i)++H)) S' m2 w'∧VR w' S' m2 (rcv fr (r i)).1 v:=by
  have hbl:(bs.map (·.c)).length=ks.length:=by simp [hlen]
  have hat:∀ p,p<ks.length → ∃ k b,ks[p]? = some k∧bs[p]? = some b∧lk H k=some b∧m k=some (rows p)∧b.mode=0∧0<cN b.c∧TrC b.c∧BR w S m X.own b (rows p)∧0<(rows p).cap:=by
    intro p hp;obtain ⟨b,h1,h2,h3,h4,h5,h6⟩:=hks p _ (List.getElem?_eq_getElem hp);obtain ⟨r',h7,h8⟩:=hM.blk _ _ h2;rw [h3] at h7;injection h7 with h7;subst h7;have hB:=h8 (by omega);have:=hB.len;exact ⟨_,b,List.getElem?_eq_getElem hp,h1,h2,h3,h4,h5,h6,hB,by omega⟩
  refine (hS w S rows vs hM.slt hM.gl.g hvs (by rw [hbl];exact hargs) (fun p c hc=>?_) (fun p q hp hq he=>?_)).mono ?_
  · rw [List.getElem?_map] at hc;obtain ⟨b,h1,rfl⟩:=Option.map_eq_some_iff.1 hc;have hp:p<ks.length:=by rw [← hlen];exact (List.getElem?_eq_some_iff.1 h1).1
    obtain ⟨k,b',h2,h3,h4,h5,h6,h7,h8,h9,h10⟩:=hat p hp;rw [h1] at h3;injection h3 with h3;subst h3;obtain ⟨bc,bm,bl⟩:=b;simp only at h6
    subst h6;exact ⟨h9.tr h8 fun _ _ _=>hM.lt h4 h5 (by simp) h10,h10⟩
  · rw [hbl] at hp hq;obtain ⟨k,b,h2,h3,h4,h5,h6,h7,h8,h9,h10⟩:=hat p hp;obtain ⟨k',b',h2',h3',h4',h5',h6',h7',h8',h9',h10'⟩:=hat q hq;have hkk:=hM.inj k k' b b' _ _ h4 h4' h5 h5' (by omega) (by omega) h10 h10' he;subst hkk;exact (List.getElem?_inj hp hnd).1 (h2.trans h2'.symm)
  · rintro e w' ⟨iI,hiI,v,S',m',rfl,C,hv⟩;rw [hbl] at C;refine ⟨iI,hiI,?_⟩;have hls:=hls iI hiI;have hlt:=hlt iI hiI;have hr:=hr iI hiI;have hfr:=hfr iI hiI;clear hS;revert C hv hls hlt hr hfr;generalize ls' iI=ls';generalize r iI=r;intro C hv hls hlt hr hfr;have hm':∀ p,p<ks.length→m' p=some (rows p):=C.lm;have hlent:∀ g,lentSet ks.length rows g → ∀ j bj rj,lk H j=some bj→m j=some rj→bj.mode≤1→0<rj.cap→j ∉ ks→rj.g ≠ g:=by
      rintro g ⟨p,hp,rfl⟩ j bj rj h1 h2 h3 h4 hj;obtain ⟨k,b,q2,q3,q4,q5,q6,q7,q8,q9,q10⟩:=hat p hp;exact hM.apart q4 q5 (by omega) q10 h1 h2 h3 h4 (fun e=>hj (e ▸ List.mem_of_getElem? q2))
    have hSl:∀ b o,S b o → ¬ lentSet ks.length rows b:=by
      rintro b o hs ⟨p,hp,rfl⟩;obtain ⟨k,b,q2,q3,q4,q5,q6,q7,q8,q9,q10⟩:=hat p hp;exact (q9.row (by omega) q10).2.2 o (.inl q6) hs
    have hst:∀ b o,S b o→S' b o∧w'.cell? ⟨b,o,none⟩=w.cell? ⟨b,o,none⟩:=fun b o hs=>⟨C.s0 b o hs,cell_of_heap (C.frm.block b (hM.slt b o hs) (hSl b o hs)) o⟩;have hsz:w.heap.size≤w'.heap.size:=C.frm.size;have hxsz:X.w0.heap.size≤w.heap.size:=hM.frm.size;have hnotlent:∀ g,g<X.w0.heap.size → ¬ X.lent g → ¬ lentSet ks.length rows g:=by
      rintro g hg hl ⟨p,hp,rfl⟩;obtain ⟨k,b,q2,q3,q4,q5,q6,q7,q8,q9,q10⟩:=hat p hp;rcases own_cases (q9.row (by omega) q10).1 with h | h
      · omega
      · exact hl h
    have hfrm:Frm X w':=⟨C.frm.os.trans hM.frm.os,C.frm.tape.trans hM.frm.tape,C.frm.output.trans hM.frm.output,by omega,fun g hg hl=>(C.frm.block g (by show g<w.heap.size;omega) (hnotlent g hg hl)).trans (hM.frm.block g hg hl),
      fun g x hm=>(C.frm.block g (Array.getElem?_eq_some_iff.1 (hM.frm.mark g x hm)).1 (by
        rintro ⟨p,hp,rfl⟩;obtain ⟨k,b,q2,q3,q4,q5,q6,q7,q8,q9,q10⟩:=hat p hp;obtain ⟨_,⟨cur,T,q11,_⟩,_⟩:=q9.row (by omega) q10;have h1:w.heap[(rows p).g]? = some x:=hM.frm.mark _ x hm;rw [q11] at h1;injection h1 with h1;have h2:=X.ex.nc _ x hm;rw [← h1] at h2;cases h2)).trans (hM.frm.mark g x hm),Nat.le_trans hM.frm.lo hsz⟩
    have hgv:(cxF w S ks.length rows ls').ex.gv=true→ls'=[] ∧ ∀ b∈bs,b.ln=false:=fun h=>by
      rcases hls with hls | hls
      · exfalso;have:(exF ks.length ls').gv=false:=by
          rw [← hls];cases ls' <;> rfl
        have h:(exF ks.length ls').gv=true:=h;rw [this] at h;cases h
      · exact hls
    have hs1:∀ b o,S' b o→X.S0 b o∨X.mine b:=fun b o hs=>by
      rcases C.s1 b o hs with h | h | ⟨h,p,hp,rfl⟩
      · exact hM.s1 b o h
      · exact .inr (.inl (by have:w.heap.size≤b:=h;omega))
      · obtain ⟨k,b,q2,q3,q4,q5,q6,q7,q8,q9,q10⟩:=hat p hp;have h1:=(q9.row (by omega) q10).1;rw [(hgv h).2 b (List.mem_of_getElem? q3)] at h1;exact .inr h1
    have hMd:=(hM.drops ks (fun k hk=>by
      obtain ⟨p,hp,e⟩:=List.getElem_of_mem hk;obtain ⟨b,_,h2,_⟩:=hks p k (by rw [← e];exact List.getElem?_eq_getElem hp);exact ⟨b,h2⟩)).world hst hfrm hs1 C.slt (fun j bj rj h1 h2 h3 h4=>by
      rw [dropH_lk] at h1;split at h1
      · injection h1 with h1;subst h1;simp at h3
      · rename_i hj;have hg:=hM.lt h1 h2 h3 h4;refine ⟨C.frm.block _ hg (fun hl=>hlent _ hl j bj rj h1 h2 h3 h4 hj rfl),fun o ho=>?_⟩;rcases C.s1 _ o ho with h | h | ⟨_,h⟩
        · exact h
        · have:w.heap.size≤rj.g:=h;omega
        · exact absurd rfl (hlent _ h j bj rj h1 h2 h3 h4 hj))
    have hq:∀ a∈lentAds ks bs ls' 0++frA fr 1000 r,∃ ln,lk ((rcv 1000 r).2++lentF ks.length ls') a.q=some ⟨a.c,0,ln⟩∧((a.q<1000∧ks[a.q]? = some a.k)∨(1000≤a.q∧a.k=fr+(a.q-1000))):=by
      intro a ha;rcases List.mem_append.1 ha with ha | ha
      · obtain ⟨i,b,h1,h2,h3,h4,h5⟩:=lentAds_mem _ _ _ _ _ ha;have hi:i<ks.length:=(List.getElem?_eq_some_iff.1 h1).1;rw [Nat.zero_add] at h4;have hlk:=lentF_lk hi h3;exact ⟨true,by rw [h4,rcv_lo _ (by omega)];exact hlk,.inl ⟨by omega,by rw [h4];exact h1⟩⟩
      · obtain ⟨i,hi,e1,e2,e3⟩:=frA_mem ha;exact ⟨false,rcv_lk (lentF ks.length ls') ha,.inr ⟨by omega,by rw [e1,e2];omega⟩⟩
    have had:=adopt (m':=m') (lentAds ks bs ls' 0++frA fr 1000 r) (dropH ks H) m hMd (fun a ha=>?_) ?_ (fun a ha b hb ra rb h1 h2 h3 h4 h5=>?_)
    · obtain ⟨m2,q1,q2,q3⟩:=had;refine ⟨v,S',m2,rfl,⟨hst,q2⟩,?_,rcv_VR hr (fun a ha q hq=>q3 a (by simp [ha]) q hq) hv⟩;refine q1.congr fun j=>adH_congr _ _ _ j ?_;rcases hls with hls | ⟨rfl,_⟩
      · rw [gvn_nil hls,List.nil_append,dropH_lk];split
        · rename_i hj;right;rw [List.map_append,List.mem_append];exact .inl (lentAds_has ks bs ls' 0 hlen hls j hj)
        · exact .inl rfl
      · left;show lk (dropH ks H) j=lk (dropH ks []++H) j;rw [← dropH_app]
    · rcases List.mem_append.1 ha with ha | ha
      · obtain ⟨i,b,h1,h2,h3,h4,h5⟩:=lentAds_mem _ _ _ _ _ ha;have hi:i<ks.length:=(List.getElem?_eq_some_iff.1 h1).1;rw [Nat.zero_add] at h4;obtain ⟨k,b',p2,p3,p4,p5,p6,p7,p8,p9,p10⟩:=hat i hi;rw [h1] at p2;injection p2 with p2;rw [h2] at p3;injection p3 with p3;subst p3;have hlk:=lentF_lk hi h3;have hblk:lk ((rcv 1000 r).2++lentF ks.length ls') i=some ⟨a.c,0,true⟩:=by
          rw [rcv_lo _ (by omega)];exact hlk
        obtain ⟨r',e1,e2⟩:=C.blk i _ hblk;rw [hm' i hi] at e1;injection e1 with e1;subst e1;refine ⟨rows i,by rw [h4];exact hm' i hi,.inr (by rw [p2];exact p5),fun m2=>?_,fun j bj rj hj f1 f2 f3 f4 _=>?_⟩
        · refine (e2 (by simp)).tr (hlt _ (List.mem_of_getElem? h3)) fun _ _ _=>?_;rw [h5];exact (p9.row (by omega) p10).1
        · rw [dropH_lk] at f1;split at f1
          · injection f1 with f1;subst f1;simp at f3
          · rename_i hjk;exact hlent _ ⟨i,hi,rfl⟩ j bj rj f1 f2 f3 f4 hjk
      · obtain ⟨i,hi,e1,e2,e3⟩:=frA_mem ha;have hlk:=rcv_lk (lentF ks.length ls') ha;obtain ⟨r',e4,e5⟩:=C.blk _ _ hlk;have hB:=e5 (by simp);have hge:0<r'.cap→w.heap.size≤r'.g∨(ls'=[]∧lentSet ks.length rows r'.g):=fun hc=>((hB.row (by simp) hc).1).imp id fun q=>⟨(hgv q.1).1,q.2⟩;refine ⟨r',e4,.inl ?_,fun m2=>?_,fun j bj rj hj f1 f2 f3 f4 f5=>?_⟩
        · refine hMd.dom _ ?_;rw [dropH_lk,if_neg ?_]
          · rw [e1];exact hfr i hi
          · intro hk;obtain ⟨p,hp,e⟩:=List.getElem_of_mem hk;obtain ⟨b,_,h2,_⟩:=hks p a.k (by rw [← e];exact List.getElem?_eq_getElem hp);rw [e1,hfr i hi] at h2;cases h2
        · refine hB.tr (RT_frA hr ha) fun _ hc _=>?_;rw [e3];show X.mine r'.g;rcases hge hc with h | ⟨hl,p,hp,hpg⟩
          · exact .inl (Nat.le_trans hxsz h)
          · obtain ⟨k,b,q2,q3,q4,q5,q6,q7,q8,q9,q10⟩:=hat p hp;have h1:=(q9.row (by omega) q10).1;rcases hls with hls | hls
            · exfalso;rw [hl] at hls;have:ks.length=0:=hls.symm;omega
            · rw [hls.2 b (List.mem_of_getElem? q3),hpg] at h1;exact h1
        · rw [dropH_lk] at f1;split at f1
          · injection f1 with f1;subst f1;simp at f3
          · rename_i hjk;have:=hM.lt f1 f2 f3 f4;rcases hge f5 with h | ⟨_,h⟩
            · omega
            · exact hlent _ h j bj rj f1 f2 f3 f4 hjk
    · rw [List.map_append,List.nodup_append];refine ⟨(lentAds_keys ks bs ls' 0).nodup hnd,frA_keys fr r,fun k hk k' hk' e=>?_⟩;subst e;have hk1:=(lentAds_keys ks bs ls' 0).subset hk;obtain ⟨p,hp,e⟩:=List.getElem_of_mem hk1;obtain ⟨b,_,h2,_⟩:=hks p k (by rw [← e];exact List.getElem?_eq_getElem hp);obtain ⟨a,ha,rfl⟩:=List.mem_map.1 hk';obtain ⟨i,hi,e1,_⟩:=frA_mem ha;rw [e1,hfr i hi] at h2;cases h2
    · obtain ⟨la,g1,g2⟩:=hq a ha;obtain ⟨lb,g3,g4⟩:=hq b hb;have hqq:=C.inj a.q b.q _ _ ra rb g1 g3 h1 h2 (by simp) (by simp) h3 h4 h5;rcases g2 with ⟨g5,g6⟩ | ⟨g5,g6⟩ <;> rcases g4 with ⟨g7,g8⟩ | ⟨g7,g8⟩
      · rw [hqq,g8] at g6;injection g6 with g6;exact g6.symm
      · omega
      · omega
      · rw [g6,g8,hqq]
theorem call_core (hM:Mem X H S m w) {ks:List Nat} (h1000:ks.length<1000) {bs:List Blk} {rows:Nat→Row} (hlen:bs.length=ks.length) (hks:∀ p k,ks[p]? = some k → ∃ b,bs[p]? = some b∧lk H k=some b∧m k=some (rows p)∧b.mode=0∧0<cN b.c∧TrC b.c) (hnd:ks.Nodup)
    {f:FuncId} {args:List AV} {r:AV} {ls':List AV} (hS:FnS P f args (bs.map (·.c)) r ls') (hls:ls'.length=ks.length∨(ls'=[] ∧ ∀ b∈bs,b.ln=false)) (hlt:∀ c∈ls',TrC c) (hr:RT r) {fr:Nat} (hfr:∀ i,i<nFr r→lk H (fr+i)=none)
    {vs:Array Value} (hvs:vs.size=args.length) (hargs:∀ (j:Nat) (x:AV) (v:Value),args[j]? = some x→vs[j]? = some v→VR w S (mL ks.length rows) x v) :
    Calls P f vs w fun e w'=>∃ v S' m2,e = .returned v∧Adv S m w S' m2 w'∧Mem X (adH (lentAds ks bs ls' 0++frA fr 1000 r) (gvn ks ls'++H)) S' m2 w'∧VR w' S' m2 (rcv fr r).1 v :=
  (call_coreE hM h1000 hlen hks hnd (hS.toE (I:=Unit) (p:=fun _=>True) (r':=fun _=>r) (ls2:=fun _=>ls') () trivial rfl rfl) (fun _ _=>hls) (fun _ _=>hlt) (fun _ _=>hr) (fun _ _=>hfr) hvs hargs).mono fun _ _ ⟨_,_,h⟩=>h
end
end Go.TravelAbs
namespace Go.TravelAbs
open Go.RowKit Go.TravelBase
def cv1 (H:List (Nat × Blk)) (x:AV):Option (AV × List (Nat × Blk) × Prop) :=
  match x with
  | .sl k es i n =>
    match lk H k with
    | some b=>some (sub b.c i n,if b.mode=0 then [(k,⟨b.c,1,false⟩)] else [],isL b.c=true∧(b.mode=0∧b.ln=false∨b.mode=1)∧0<es∧cE b.c=es∧i+n≤cN b.c∧TrC b.c)
    | none=>none
  | x=>some (x,[],Tr x)
def cvL (H:List (Nat × Blk)):List AV→Option (List AV × List (Nat × Blk) × Prop)
  | []=>some ([],[],True)
  | x::r =>
    match cv1 H x with
    | some (y,e1,v1) =>
      match cvL (e1++H) r with
      | some (ys,e2,v2)=>some (y::ys,e2++e1,v1∧v2)
      | none=>none
    | none=>none
def cvX (H:List (Nat × Blk)) (x:AV):Option (AV × List (Nat × Blk) × Prop) :=
  match x with
  | .agg xs =>
    match cvL H xs with
    | some (ys,e,v)=>some (.agg ys,e,v)
    | none=>none
  | x=>cv1 H x
def cvK (H:List (Nat × Blk)) (x:AV):Option (AV × List (Nat × Blk) × Prop) :=
  match x with
  | .ptr k 0 off =>
    match lk H k with
    | some b =>
      match b.c with
      | .li _ [y]=>some (.ep y off,if b.mode=0 then [(k,⟨b.c,1,false⟩)] else [],(b.mode=0∧b.ln=false∨b.mode=1)∧TrC b.c)
      | _=>none
    | none=>none
  | x=>some (x,[],Tr x)
def cvKL (H:List (Nat × Blk)):List AV→Option (List AV × List (Nat × Blk) × Prop)
  | []=>some ([],[],True)
  | x::r =>
    match cvK H x with
    | some (y,e1,v1) =>
      match cvKL (e1++H) r with
      | some (ys,e2,v2)=>some (y::ys,e2++e1,v1∧v2)
      | none=>none
    | none=>none
def cvY (H:List (Nat × Blk)) (x:AV):Option (AV × List (Nat × Blk) × Prop) :=
  match x with
  | .clo f caps =>
    match cvKL H caps with
    | some (ys,e,v)=>some (.clo f ys,e,v)
    | none=>none
  | x=>cvX H x
def ldK (L:Bool):AV→Option Nat
  | .ptr k _ _=>some k
  | .sl k es _ _=>if L=true then (if es=1 then none else some k) else if 900000≤k then some k else if k<1000 then some k else none
  | _=>none
def lendF:FuncId→Bool
  | 37=>true
  | _=>false
def ldP (p:Nat):AV→AV
  | .ptr _ i off=>.ptr p i off
  | .sl _ es i n=>.sl p es i n
  | x=>x
def cvA (L:Bool) (H:List (Nat × Blk)):List AV→Nat→Option (List AV × List Nat × List (Nat × Blk) × Prop)
  | [],_=>some ([],[],[],True)
  | x::r,p =>
    match ldK L x with
    | some k =>
      match cvA L H r (p+1) with
      | some (ys,ks,e,v)=>some (ldP p x::ys,k::ks,e,v)
      | none=>none
    | none =>
      match cvY H x with
      | some (y,e1,v1) =>
        match cvA L (e1++H) r p with
        | some (ys,ks,e2,v2)=>some (y::ys,ks,e2++e1,v1∧v2)
        | none=>none
      | none=>none
section
variable {P:Program} {ty:Ty} {X:Cx} {H:List (Nat × Blk)} {S:CSet} {m:RMap} {w:World}
theorem TrC.sub {c:AV} (h:TrC c) (hL:isL c=true) {i n:Nat} (hn:i+n≤cN c):Tr (sub c i n):=by
  cases c with
  | by_ bs=>exact Tr.by_ _
  | li es xs =>
    refine Tr.li fun x hx y hy=>?_;obtain ⟨j,hj,e⟩:=List.getElem_of_mem (List.mem_of_mem_drop (List.mem_of_mem_take hx));refine h j hj y ?_;have:cAt (.li es xs) j=x:=by simp [cAt,List.getD,List.getElem?_eq_getElem hj,e]
    rw [this];exact hy
  | _=>cases hL
theorem cv1_ok (hM:Mem X H S m w) {x y:AV} {v:Value} {e:List (Nat × Blk)} {vc:Prop} (hv:VR w S m x v) (h:cv1 H x=some (y,e,vc)) (hvc:vc):∃ S',Mem X (e++H) S' m w∧Adv S m w S' m w∧VR w S' m y v∧Tr y:=by
  unfold cv1 at h;split at h
  · rename_i k es i n;split at h
    · rename_i b hb;injection h with h;simp only [Prod.mk.injEq] at h;obtain ⟨rfl,rfl,rfl⟩:=h;obtain ⟨c1,c2,c3,c4,c5,c6⟩:=hvc;rcases c2 with ⟨c2,c7⟩ | c2
      · rw [if_pos c2];obtain ⟨S',q1,q2⟩:=hM.frz hb c2 c7;exact ⟨S',q1,q2,frozen_VR q1 (k:=k) (b:=⟨b.c,1,false⟩) (by simp [lk]) c1 rfl c3 c4 c5 (hv.adv q2),c6.sub c1 c5⟩
      · rw [if_neg (by omega)];exact ⟨S,hM,Adv.refl _ _ _,frozen_VR hM hb c1 c2 c3 c4 c5 hv,c6.sub c1 c5⟩
    · cases h
  · injection h with h;simp only [Prod.mk.injEq] at h;obtain ⟨rfl,rfl,rfl⟩:=h;exact ⟨S,hM,Adv.refl _ _ _,hv,hvc⟩
theorem cvL_ok:∀ (xs:List AV) (H:List (Nat × Blk)) (S:CSet) (ys:List AV) (e:List (Nat × Blk)) (vc:Prop) (vs:List Value),Mem X H S m w→(∀ (j:Nat) (x:AV) (v:Value),xs[j]? = some x→vs[j]? = some v→VR w S m x v)→vs.length=xs.length→cvL H xs=some (ys,e,vc)→vc →
    ∃ S',Mem X (e++H) S' m w∧Adv S m w S' m w∧ys.length=xs.length∧(∀ (j:Nat) (y:AV) (v:Value),ys[j]? = some y→vs[j]? = some v→VR w S' m y v) ∧ ∀ y∈ys,Tr y
  | [],H,S,ys,e,vc,vs,hM,_,_,h,_=>by
    simp only [cvL,Option.some.injEq,Prod.mk.injEq] at h;obtain ⟨rfl,rfl,_⟩:=h;exact ⟨S,hM,Adv.refl _ _ _,rfl,fun j y v hy=>by simp at hy,fun y hy=>by cases hy⟩
  | x::r,H,S,ys,e,vc,vs,hM,hv,hl,h,hvc=>by
    simp only [cvL] at h;split at h
    · rename_i y e1 v1 h1;split at h
      · rename_i ys' e2 v2 h2;simp only [Option.some.injEq,Prod.mk.injEq] at h;obtain ⟨rfl,rfl,rfl⟩:=h;match vs,hl with
        | v::vs,hl =>
          obtain ⟨S1,a1,a2,a3,a4⟩:=cv1_ok hM (hv 0 x v rfl rfl) h1 hvc.1;obtain ⟨S2,b1,b2,b3,b4,b5⟩:=cvL_ok r (e1++H) S1 ys' e2 v2 vs a1 (fun j x u hx hu=>(hv (j+1) x u (by simpa using hx) (by simpa using hu)).adv a2) (by simpa using hl) h2 hvc.2;refine ⟨S2,by rw [List.append_assoc];exact b1,a2.trans b2,by simp [b3],fun j y' u hy hu=>?_,fun y' hy=>?_⟩
          · match j,hy,hu with
            | 0,hy,hu =>
              simp only [List.getElem?_cons_zero,Option.some.injEq] at hy hu;subst hy hu;exact a3.adv b2
            | j+1,hy,hu=>exact b4 j y' u (by simpa using hy) (by simpa using hu)
          · rcases List.mem_cons.1 hy with rfl | hy
            · exact a4
            · exact b5 y' hy
      · cases h
    · cases h
theorem cvX_ok (hM:Mem X H S m w) {x y:AV} {v:Value} {e:List (Nat × Blk)} {vc:Prop} (hv:VR w S m x v) (h:cvX H x=some (y,e,vc)) (hvc:vc):∃ S',Mem X (e++H) S' m w∧Adv S m w S' m w∧VR w S' m y v∧Tr y:=by
  unfold cvX at h;split at h
  · rename_i xs;split at h
    · rename_i ys e' v' h';simp only [Option.some.injEq,Prod.mk.injEq] at h;obtain ⟨rfl,rfl,rfl⟩:=h;obtain ⟨cs,rfl,hl,hp⟩:=hv.agg_inv;obtain ⟨S',a1,a2,a3,a4,a5⟩:=cvL_ok xs H S ys e' v' cs.toList hM (fun j x u hx hu=>hp j x u hx (by simpa using hu)) (by simpa using hl) h' hvc;exact ⟨S',a1,a2,.agg (by omega) fun j y u hy hu=>a4 j y u hy (by simpa using hu),Tr.agg a5⟩
    · cases h
  · exact cv1_ok hM hv h hvc
theorem Tr.ep {x:AV} {off:Nat} (h:∀ y∈x.cl,Tr y):Tr (.ep x off):=fun w S m u hu m'=>by
  cases hu with
  | ep us h1 h2=>exact .ep us h1 fun j y hy=>h y (List.mem_of_getElem? hy) _ _ _ _ (h2 j y hy) m'
theorem Tr.clo {f:FuncId} {caps:List AV} (h:∀ x∈caps,Tr x):Tr (.clo f caps):=fun w S m u hu m'=>by
  cases hu with
  | clo h1 h2=>exact .clo h1 fun j x u h3 h4=>h x (List.mem_of_getElem? h3) _ _ _ _ (h2 j x u h3 h4) m'
theorem settled_ep (h:Mem X H S m w) {k off es:Nat} {y:AV} {b:Blk} (hk:lk H k=some b) (hc:b.c = .li es [y]) (h1:b.mode=1) {v:Value} (hv:VR w S m (.ptr k 0 off) v):VR w S m (.ep y off) v:=by
  obtain ⟨r,hr,rfl⟩:=hv.ptr_inv;obtain ⟨r',h2,h3⟩:=h.blk k b hk;rw [hr] at h2;injection h2 with h2;subst h2;have hB:=h3 (by omega);obtain ⟨q1,q2⟩:=hB.rd 0 (by rw [hc];show 0<1;omega);have e1:cAt b.c 0=y:=by rw [hc];rfl
  rw [e1] at q1 q2;refine .ep (us:=fun j=>(w.cell? ⟨r.g,0*r.es+j,none⟩).getD undef) (fun j hj=>?_) fun j z hz=>?_
  · obtain ⟨u,hu,_⟩:=q2 j _ (List.getElem?_eq_getElem hj);refine ⟨hB.set (by omega) _ ?_,by rw [hu];rfl⟩;rw [hc];show 0*r.es+j<1*r.es;omega
  · obtain ⟨u,hu,hz'⟩:=q2 j z hz;rw [hu];exact hz'
theorem cvK_ok (hM:Mem X H S m w) {x y:AV} {v:Value} {e:List (Nat × Blk)} {vc:Prop} (hv:VR w S m x v) (h:cvK H x=some (y,e,vc)) (hvc:vc):∃ S',Mem X (e++H) S' m w∧Adv S m w S' m w∧VR w S' m y v∧Tr y:=by
  unfold cvK at h;split at h
  · rename_i k off;split at h
    · rename_i b hb;split at h
      · rename_i es z hc;injection h with h;simp only [Prod.mk.injEq] at h;obtain ⟨rfl,rfl,rfl⟩:=h;obtain ⟨c2,c6⟩:=hvc;have ht:Tr (.ep z off):=Tr.ep (by
          have:=c6 0 (by rw [hc];show 0<1;omega);have e1:cAt b.c 0=z:=by rw [hc];rfl
          rwa [e1] at this)
        rcases c2 with ⟨c2,c7⟩ | c2
        · rw [if_pos c2];obtain ⟨S',q1,q2⟩:=hM.frz hb c2 c7;exact ⟨S',q1,q2,settled_ep q1 (k:=k) (b:=⟨b.c,1,false⟩) (by simp [lk]) hc rfl (hv.adv q2),ht⟩
        · rw [if_neg (by omega)];exact ⟨S,hM,Adv.refl _ _ _,settled_ep hM hb hc c2 hv,ht⟩
      · cases h
    · cases h
  · injection h with h;simp only [Prod.mk.injEq] at h;obtain ⟨rfl,rfl,rfl⟩:=h;exact ⟨S,hM,Adv.refl _ _ _,hv,hvc⟩
theorem cvKL_ok:∀ (xs:List AV) (H:List (Nat × Blk)) (S:CSet) (ys:List AV) (e:List (Nat × Blk)) (vc:Prop) (vs:List Value),Mem X H S m w→(∀ (j:Nat) (x:AV) (v:Value),xs[j]? = some x→vs[j]? = some v→VR w S m x v)→vs.length=xs.length→cvKL H xs=some (ys,e,vc)→vc →
    ∃ S',Mem X (e++H) S' m w∧Adv S m w S' m w∧ys.length=xs.length∧(∀ (j:Nat) (y:AV) (v:Value),ys[j]? = some y→vs[j]? = some v→VR w S' m y v) ∧ ∀ y∈ys,Tr y
  | [],H,S,ys,e,vc,vs,hM,_,_,h,_=>by
    simp only [cvKL,Option.some.injEq,Prod.mk.injEq] at h;obtain ⟨rfl,rfl,_⟩:=h;exact ⟨S,hM,Adv.refl _ _ _,rfl,fun j y v hy=>by simp at hy,fun y hy=>by cases hy⟩
  | x::r,H,S,ys,e,vc,vs,hM,hv,hl,h,hvc=>by
    simp only [cvKL] at h;split at h
    · rename_i y e1 v1 h1;split at h
      · rename_i ys' e2 v2 h2;simp only [Option.some.injEq,Prod.mk.injEq] at h;obtain ⟨rfl,rfl,rfl⟩:=h;match vs,hl with
        | v::vs,hl =>
          obtain ⟨S1,a1,a2,a3,a4⟩:=cvK_ok hM (hv 0 x v rfl rfl) h1 hvc.1;obtain ⟨S2,b1,b2,b3,b4,b5⟩:=cvKL_ok r (e1++H) S1 ys' e2 v2 vs a1 (fun j x u hx hu=>(hv (j+1) x u (by simpa using hx) (by simpa using hu)).adv a2) (by simpa using hl) h2 hvc.2;refine ⟨S2,by rw [List.append_assoc];exact b1,a2.trans b2,by simp [b3],fun j y' u hy hu=>?_,fun y' hy=>?_⟩
          · match j,hy,hu with
            | 0,hy,hu =>
              simp only [List.getElem?_cons_zero,Option.some.injEq] at hy hu;subst hy hu;exact a3.adv b2
            | j+1,hy,hu=>exact b4 j y' u (by simpa using hy) (by simpa using hu)
          · rcases List.mem_cons.1 hy with rfl | hy
            · exact a4
            · exact b5 y' hy
      · cases h
    · cases h
theorem cvY_ok (hM:Mem X H S m w) {x y:AV} {v:Value} {e:List (Nat × Blk)} {vc:Prop} (hv:VR w S m x v) (h:cvY H x=some (y,e,vc)) (hvc:vc):∃ S',Mem X (e++H) S' m w∧Adv S m w S' m w∧VR w S' m y v∧Tr y:=by
  unfold cvY at h;split at h
  · rename_i f caps;split at h
    · rename_i ys e' v' h';simp only [Option.some.injEq,Prod.mk.injEq] at h;obtain ⟨rfl,rfl,rfl⟩:=h;cases hv with
      | clo hl hp =>
        rename_i cs;obtain ⟨S',a1,a2,a3,a4,a5⟩:=cvKL_ok caps H S ys e' v' cs.toList hM (fun j x u hx hu=>hp j x u hx (by simpa using hu)) (by simpa using hl) h' hvc;exact ⟨S',a1,a2,.clo (by omega) fun j y u hy hu=>a4 j y u hy (by simpa using hu),Tr.clo a5⟩
    · cases h
  · exact cvX_ok hM hv h hvc
theorem ldK_ok {L:Bool} {x:AV} {k:Nat} (h:ldK L x=some k) {v:Value} (hv:VR w S m x v):∃ row,m k=some row ∧ ∀ (w':World) (S':CSet) (n p:Nat) (rows:Nat→Row),rows p=row→p<n→VR w' S' (mL n rows) (ldP p x) v:=by
  unfold ldK at h;split at h
  · injection h with h;subst h;obtain ⟨row,hr,rfl⟩:=hv.ptr_inv;exact ⟨row,hr,fun w' S' n p rows e hp=>by subst e;exact .ptr (r:=rows p) (by simp only [mL];rw [if_pos hp])⟩
  · rename_i k' es i n;have h:k'=k:=by
      split at h
      · split at h
        · cases h
        · injection h
      · split at h
        · injection h
        · split at h
          · injection h
          · cases h
    subst h;cases hv with
    | sl h1 h2 h3 h4 h5 h6=>exact ⟨_,h1,fun w' S' n p rows e hp=>.sl (by simp only [mL];rw [if_pos hp,e]) h2 h3 h4 h5 h6⟩
  · cases h
theorem cvA_ok {L:Bool}:∀ (xs:List AV) (p:Nat) (H:List (Nat × Blk)) (S:CSet) (ys:List AV) (ks:List Nat) (e:List (Nat × Blk)) (vc:Prop) (vs:List Value),Mem X H S m w→(∀ (j:Nat) (x:AV) (v:Value),xs[j]? = some x→vs[j]? = some v→VR w S m x v)→vs.length=xs.length→cvA L H xs p=some (ys,ks,e,vc)→vc →
    ∃ S',Mem X (e++H) S' m w∧Adv S m w S' m w∧ys.length=xs.length∧(∀ k∈ks,∃ r,m k=some r) ∧
      ∀ (n:Nat) (rows:Nat→Row),p+ks.length≤n→(∀ i k,ks[i]? = some k→m k=some (rows (p+i))) → ∀ (j:Nat) (y:AV) (v:Value),ys[j]? = some y→vs[j]? = some v→VR w S' (mL n rows) y v
  | [],p,H,S,ys,ks,e,vc,vs,hM,_,_,h,_=>by
    simp only [cvA,Option.some.injEq,Prod.mk.injEq] at h;obtain ⟨rfl,rfl,rfl,_⟩:=h;exact ⟨S,hM,Adv.refl _ _ _,rfl,(fun k hk=>absurd hk (List.not_mem_nil)),(fun n rows _ _ j y v hy=>absurd hy (by simp))⟩
  | x::r,p,H,S,ys,ks,e,vc,vs,hM,hv,hl,h,hvc=>by
    match vs,hl with
    | v::vs,hl =>
      have hl':vs.length=r.length:=by simpa using hl
      have hv0:=hv 0 x v rfl rfl;simp only [cvA] at h;split at h
      · rename_i k hld;split at h
        · rename_i ys' ks' e' v' h1;simp only [Option.some.injEq,Prod.mk.injEq] at h;obtain ⟨rfl,rfl,rfl,rfl⟩:=h;obtain ⟨S1,a1,a2,a3,a4,a5⟩:=cvA_ok r (p+1) H S ys' ks' e' v' vs hM (fun j x u hx hu=>hv (j+1) x u (by simpa using hx) (by simpa using hu)) hl' h1 hvc;obtain ⟨row,hr,hrow⟩:=ldK_ok hld hv0;refine ⟨S1,a1,a2,by simp [a3],fun k' hk=>?_,fun n rows hn hrows j y u hy hu=>?_⟩
          · rcases List.mem_cons.1 hk with rfl | hk
            · exact ⟨_,hr⟩
            · exact a4 k' hk
          · simp only [List.length_cons] at hn;match j,hy,hu with
            | 0,hy,hu =>
              simp only [List.getElem?_cons_zero,Option.some.injEq] at hy hu;subst hy hu;have h0:=hrows 0 _ (List.getElem?_cons_zero);rw [hr] at h0;injection h0 with h0;exact hrow _ _ n p rows h0.symm (by omega)
            | j+1,hy,hu =>
              refine a5 n rows (by omega) (fun i k' hk=>?_) j y u (by simpa using hy) (by simpa using hu);have:=hrows (i+1) k' (by simpa using hk);rw [show p+(i+1)=p+1+i by omega] at this;exact this
        · cases h
      · split at h
        · rename_i y e1 v1 h1;split at h
          · rename_i ys' ks' e2 v2 h2;simp only [Option.some.injEq,Prod.mk.injEq] at h;obtain ⟨rfl,rfl,rfl,rfl⟩:=h;obtain ⟨S1,a1,a2,a3,a4⟩:=cvY_ok hM hv0 h1 hvc.1;obtain ⟨S2,b1,b2,b3,b4,b5⟩:=cvA_ok r p (e1++H) S1 ys' ks' e2 v2 vs a1 (fun j x u hx hu=>(hv (j+1) x u (by simpa using hx) (by simpa using hu)).adv a2) hl' h2 hvc.2;refine ⟨S2,by rw [List.append_assoc];exact b1,a2.trans b2,by simp [b3],b4,fun n rows hn hrows j y' u hy hu=>?_⟩;match j,hy,hu with
            | 0,hy,hu =>
              simp only [List.getElem?_cons_zero,Option.some.injEq] at hy hu;subst hy hu;exact a4 _ _ _ _ (a3.adv b2) _
            | j+1,hy,hu=>exact b5 n rows hn hrows j y' u (by simpa using hy) (by simpa using hu)
          · cases h
        · cases h
end
end Go.TravelAbs
namespace Go.TravelAbs
open Go.RowKit Go.TravelBase
theorem run_enter {P:Program} {f:FuncId} {fn:Func} {c:Code} (hf:P.funcs[f]? = some fn) (hname:(fn.name == "runtime.NumGoroutine")=false) (hb:fn.body=some c) (args:Array Value) (w:World) :
    (callFunc f args).run P w = .ok (.enter f args) w:=by
  have h1:fn.name ≠ "runtime.NumGoroutine":=by simpa using hname
  simp [callFunc,hf,h1,hb]
abbrev Sg:=FuncId→List AV→List AV→Option (AV × List AV × Prop)
def FnOK (P:Program) (f:FuncId):Prop:=∃ fn c,P.funcs[f]? = some fn∧(fn.name == "runtime.NumGoroutine")=false∧fn.body=some c
def SgOK (P:Program) (σ:Sg):Prop:=∀ f args ls r ls' vc,σ f args ls=some (r,ls',vc)→vc→FnOK P f∧FnS P f args ls r ls'
def lkAll (H:List (Nat × Blk)):List Nat→Option (List Blk)
  | []=>some []
  | k::ks =>
    match lk H k,lkAll H ks with
    | some b,some bs=>some (b::bs)
    | _,_=>none
def fnv:AV→Option (FuncId × List AV × List AV)
  | .clo f caps=>some (f,[],caps)
  | .bm f fst=>some (f,fst,[])
  | _=>none
def evC (σ:Sg) (H:List (Nat × Blk)) (fr:Nat) (g:Operand→AV) (op:Op):Option Out :=
  match op with
  | .call ⟨.value f,args,_⟩ =>
    match fnv (stp (g f)) with
    | some (fid,fst,caps) =>
      match cvA (lendF fid) H (fst++(args.toList.map fun x=>stp (g x))++caps) 0 with
      | some (ars,ks,e1,v1) =>
        match lkAll (e1++H) ks with
        | some bs =>
          match σ fid ars (bs.map (·.c)) with
          | some (r,ls,v2)=>some ⟨(rcv fr r).1,adH (lentAds ks bs ls 0++frA fr 1000 r) []++(gvn ks ls++e1),
              cnd (g f)∧(∀ x∈args.toList,cnd (g x))∧v1∧v2∧ks.Nodup∧ks.length<1000∧(ls.length=ks.length∨(ls=[] ∧ ∀ b∈bs,b.ln=false))∧(∀ b∈bs,b.mode=0∧0<cN b.c∧TrC b.c)∧(∀ c∈ls,TrC c)∧RT r∧nFr r≤8⟩
          | none=>none
        | none=>none
      | none=>none
    | _=>none
  | _=>none
def evX (ty:Ty) (σ:Sg) (H:List (Nat × Blk)) (fr:Nat) (g:Operand→AV) (op:Op):Option Out :=
  match evA ty g op with
  | some (v,vc)=>some ⟨v,[],vc⟩
  | none =>
    match evM ty H fr g op with
    | some out=>some out
    | none =>
      match evN ty H fr g op with
      | some out=>some out
      | none=>evC σ H fr g op
section
variable {P:Program} {ty:Ty} {X:Cx} {H:List (Nat × Blk)} {S:CSet} {m:RMap} {w:World} {σ:Sg}
theorem adH_app:∀ (l:List Ad) (H:List (Nat × Blk)),adH l H=adH l []++H
  | [],H=>rfl
  | a::l,H=>by
    simp only [adH];rw [adH_app l ((a.k,⟨a.c,0,a.ln⟩)::H),adH_app l [(a.k,⟨a.c,0,a.ln⟩)]];simp
theorem lkAll_at:∀ (ks:List Nat) (bs:List Blk),lkAll H ks=some bs→bs.length=ks.length ∧ ∀ (p k:Nat),ks[p]? = some k → ∃ b,bs[p]? = some b∧lk H k=some b
  | [],bs,h=>by
    simp only [lkAll,Option.some.injEq] at h;subst h;exact ⟨rfl,fun p k hk=>by simp at hk⟩
  | k::ks,bs,h=>by
    simp only [lkAll] at h;split at h
    · rename_i b bs' h1 h2;simp only [Option.some.injEq] at h;subst h;obtain ⟨a1,a2⟩:=lkAll_at ks bs' h2;refine ⟨by simp [a1],fun p k' hk=>?_⟩;match p,hk with
      | 0,hk =>
        simp only [List.getElem?_cons_zero,Option.some.injEq] at hk;subst hk;exact ⟨b,rfl,h1⟩
      | p+1,hk=>exact a2 p k' (by simpa using hk)
    · cases h
theorem Mem.dom' (hM:Mem X H S m w) {e:List (Nat × Blk)} {S':CSet} (hM':Mem X (e++H) S' m w) {k:Nat} (h:lk H k=none):lk (e++H) k=none:=by
  cases hk:lk (e++H) k with
  | none=>rfl
  | some b =>
    obtain ⟨r,h1,_⟩:=hM'.blk k b hk;rw [hM.dom k h] at h1;cases h1
theorem fnv_inv {x:AV} {fid:FuncId} {fst caps:List AV} (h:fnv x=some (fid,fst,caps)) {u:Value} (hv:VR w S m x u):∃ fs cs:Array Value,u = .func (.func fid) fs cs∧fs.size=fst.length∧cs.size=caps.length∧(∀ (j:Nat) (x:AV) (u:Value),fst[j]? = some x→fs[j]? = some u→VR w S m x u) ∧ ∀ (j:Nat) (x:AV) (u:Value),caps[j]? = some x→cs[j]? = some u→VR w S m x u:=by
  unfold fnv at h;split at h
  · simp only [Option.some.injEq,Prod.mk.injEq] at h;obtain ⟨rfl,rfl,rfl⟩:=h;cases hv with
    | clo hl hp=>exact ⟨#[],_,rfl,rfl,hl,fun j x u hx=>by simp at hx,hp⟩
  · simp only [Option.some.injEq,Prod.mk.injEq] at h;obtain ⟨rfl,rfl,rfl⟩:=h;cases hv with
    | bm hl hp=>exact ⟨_,#[],rfl,hl,rfl,hp,fun j x u hx=>by simp at hx⟩
  · cases h
def Left (X:Cx) (H:List (Nat × Blk)) (S:CSet) (m:RMap) (w:World) (out:Out) (v:Value) (w':World):Prop :=
  ∃ S' m',Adv S m w S' m' w'∧Mem X (out.eff++H) S' m' w'∧VR w' S' m' out.v v
theorem evC_ok (hσ:SgOK P σ) (hM:Mem X H S m w) {g:Operand→AV} {ρ:Operand→Value} (hg:∀ y,VR w S m (g y) (ρ y)) {fr:Nat} (hfr:∀ i,i<8→lk H (fr+i)=none) {o:Oper} {out:Out} (h:evC σ H fr g o.op=some out) (hvc:out.vc) :
    ∃ f args,(execOp ρ o).run P w = .ok (.enter f args) w∧Calls P f args w fun e w'=>∃ v,e = .returned v∧Left X H S m w out v w':=by
  unfold execOp;unfold evC at h;split at h
  · rename_i f args ats hop;rw [hop];split at h
    · rename_i fid fst caps hf;split at h
      · rename_i ars ks e1 v1 hcv;split at h
        · rename_i bs hbs;split at h
          · rename_i r ls v2 hs;injection h with h;subst h;obtain ⟨c1,c2,c3,c4,c5,c6,c7,c8,c9,c10,c11⟩:=hvc;have hfv:=(hg f).strip c1;obtain ⟨fs,cs,ef,hfs0,hcs,hfp,hcp⟩:=fnv_inv hf hfv;obtain ⟨ha1,ha2⟩:=VR.caps hg c2;have hvsl:(fs.toList++(args.map ρ).toList++cs.toList).length=(fst++(args.toList.map fun x=>stp (g x))++caps).length:=by
              simp [hcs,hfs0]
            obtain ⟨S1,b1,b2,b3,b4,b5⟩:=cvA_ok _ 0 H S ars ks e1 v1 (fs.toList++(args.map ρ).toList++cs.toList) hM (fun j x u hx hu=>by
              have hl:((args.toList.map fun x=>stp (g x))).length=(args.map ρ).toList.length:=by simp
              have hl0:fst.length=fs.toList.length:=by simp [hfs0]
              rcases Nat.lt_or_ge j (fs.toList++(args.map ρ).toList).length with hj | hj
              · rw [List.getElem?_append_left (by rw [List.length_append] at hj ⊢;omega)] at hx;rw [List.getElem?_append_left hj] at hu;rcases Nat.lt_or_ge j fs.toList.length with hj2 | hj2
                · rw [List.getElem?_append_left (by omega)] at hx;rw [List.getElem?_append_left hj2] at hu;exact hfp j x u hx (by simpa using hu)
                · rw [List.getElem?_append_right (by omega)] at hx;rw [List.getElem?_append_right hj2] at hu;rw [hl0] at hx;exact ha2 _ x u hx (by simpa using hu)
              · rw [List.getElem?_append_right (by rw [List.length_append] at hj ⊢;omega)] at hx;rw [List.getElem?_append_right hj] at hu;rw [List.length_append,hl,hl0,← List.length_append] at hx;exact hcp _ x u hx (by simpa using hu)) hvsl hcv c3
            obtain ⟨d1,d2⟩:=lkAll_at ks bs hbs;obtain ⟨hfn,hspec⟩:=hσ _ _ _ _ _ _ hs c4;obtain ⟨fn,cd,hfs,hnm,hbody⟩:=hfn;let rows:Nat→Row:=fun p=>((ks[p]?).bind m).getD ⟨0,0,0⟩
            have hrows:∀ i k,ks[i]? = some k→m k=some (rows i):=by
              intro i k hk;obtain ⟨r',hr'⟩:=b4 k (List.mem_of_getElem? hk);simp only [rows,hk,Option.bind_some,hr',Option.getD_some]
            have hcall:=call_core b1 (ks:=ks) c6 (bs:=bs) (rows:=rows) d1 (fun p k hk=>by
              obtain ⟨b,e2,e3⟩:=d2 p k hk;obtain ⟨f1,f2,f3⟩:=c8 b (List.mem_of_getElem? e2);exact ⟨b,e2,e3,hrows p k hk,f1,f2,f3⟩) c5 hspec c7 c9 c10 (fr:=fr) (fun i hi=>hM.dom' b1 (hfr i (by omega))) (vs:=fs++(args.map ρ)++cs) (by
              rw [b3];simpa using hvsl) (fun j y u hy hu=>b5 ks.length rows (by omega) (fun i k hk=>by rw [Nat.zero_add];exact hrows i k hk) j y u hy (by rw [← Array.getElem?_toList,Array.toList_append,Array.toList_append] at hu;exact hu))
            refine ⟨fid,fs++(args.map ρ)++cs,?_,hcall.mono ?_⟩
            · simp only [resolve,Sem.run_bind,ef,Deferred.ofValue,invoke];have:=run_enter hfs hnm hbody (fs++(args.map ρ)++cs) w;simpa using this
            · rintro e w' ⟨v,S',m2,rfl,q1,q2,q3⟩;refine ⟨v,rfl,S',m2,b2.trans q1,?_,q3⟩;rw [adH_app] at q2;rw [List.append_assoc,List.append_assoc];exact q2
          · cases h
        · cases h
      · cases h
    · cases h
  · cases h
theorem Post.left {out:Out} {r:Result Next} (h:Post X H S m w out r):(∃ v w',r = .ok (.value v) w'∧Left X H S m w out v w') ∨ ∃ w',r = .ok .skip w'∧Left X H S m w out undef w':=by
  obtain ⟨v,w',S',m',hr,h1,h2,h3⟩:=h;rcases hr with hr | ⟨hr,rfl⟩
  · exact .inl ⟨v,w',hr,S',m',h1,h2,h3⟩
  · exact .inr ⟨w',hr,S',m',h1,h2,h3⟩
theorem evX_ok (hT:TysOK P ty) (hσ:SgOK P σ) (hM:Mem X H S m w) {g:Operand→AV} {a:Act} (hg:∀ y,VR w S m (g y) (a.eval y)) {fr:Nat} (hfr:∀ i,i<8→lk H (fr+i)=none) {o:Oper} {out:Out} (h:evX ty σ H fr g o.op=some out) (hvc:out.vc)
    {K:Act→World→Prop} {Q:Exit→Act→World→Prop} (hK:∀ v w',Left X H S m w out v w'→K (a.put o.dst v) w'):o.wp P a w K Q:=by
  unfold evX at h;unfold Oper.wp;split at h
  · rename_i v vc hA;injection h with h;subst h;obtain ⟨u,h1,h2⟩:=evA_ok hT hg hA hvc;rw [h1];exact hK u w ⟨S,m,Adv.refl _ _ _,hM,h2⟩
  · split at h
    · rename_i out' hMm;injection h with h;subst h;rcases (evM_ok hT hM hg (by simpa using hfr 0 (by omega)) hMm hvc).left with ⟨v,w',h1,h2⟩ | ⟨w',h1,h2⟩
      · rw [h1];exact hK v w' h2
      · rw [h1];exact hK undef w' h2
    · split at h
      · rename_i out' hN;injection h with h;subst h;rcases (evN_ok hT hM hg (by simpa using hfr 0 (by omega)) hN hvc).left with ⟨v,w',h1,h2⟩ | ⟨w',h1,h2⟩
        · rw [h1];exact hK v w' h2
        · rw [h1];exact hK undef w' h2
      · obtain ⟨f,args,h1,h2⟩:=evC_ok hσ hM hg hfr h hvc;rw [h1];refine h2.mono ?_;rintro e w' ⟨v,rfl,h3⟩;exact hK v w' h3
def opnd (tm:List (Nat × AV)):Operand→AV
  | .tmp t=>gt tm t
  | .const v=>.lit v
  | .func f=>.clo f []
  | .global g=>glA g
def putT (d:Option Tmp) (v:AV) (tm:List (Nat × AV)):List (Nat × AV) :=
  match d with
  | some d=>(d,v)::tm
  | none=>tm
def blind:Op→Bool
  | .load _ _=>false
  | .store _ _ _=>false
  | .slice _ _ _ _ (some _)=>false
  | .slice _ _ none none none=>false
  | .call ⟨.builtin .append,_,_⟩=>false
  | .call ⟨.builtin .copy,_,_⟩=>false
  | .call ⟨.value _,_,_⟩=>false
  | _=>true
def evG (ty:Ty) (σ:Sg) (gd:Nat→Option Tmp) (H:List (Nat × Blk)) (fr:Nat) (tm:List (Nat × AV)) (o:Oper):Option Out :=
  match o.guard with
  | none=>evX ty σ H fr (opnd tm) o.op
  | some (j,want) =>
    match gd j with
    | some d =>
      match stp (gt tm d) with
      | .lit (.bool c) =>
        match evX ty σ H fr (opnd tm) o.op with
        | some ⟨v,[],vc⟩=>some ⟨.opt (cndB (gt tm d) && (c == want)) v,[],(cndB (gt tm d) && (c == want))=true→vc⟩
        | some ⟨v,e,vc⟩=>if (cndB (gt tm d) && (c == want))=false then some ⟨.opt false .any,[],True⟩ else some ⟨v,e,(cndB (gt tm d) && (c == want))=true∧vc⟩
        | none=>if blind o.op=true then some ⟨.opt false .any,[],(cndB (gt tm d) && (c == want))=false⟩ else none
      | _=>none
    | none=>none
def TmR (w:World) (S:CSet) (m:RMap) (tm:List (Nat × AV)) (a:Act):Prop:=∀ t,VR w S m (gt tm t) (a.tmps.getD t undef)
theorem opnd_VR {tm:List (Nat × AV)} {a:Act} (hG:GLw w S) (h:TmR w S m tm a) (y:Operand):VR w S m (opnd tm y) (a.eval y):=by
  cases y with
  | tmp t=>exact h t
  | const v=>exact .lit v
  | func f=>exact .clo rfl fun j x u hx=>by simp at hx
  | global g=>exact hG.at_ m g
theorem put_tm {tm:List (Nat × AV)} {a:Act} {d:Option Tmp} {x:AV} {v:Value} (h:TmR w S m tm a) (hd:∀ t∈d,t<a.tmps.size) (hv:VR w S m x v):TmR w S m (putT d x tm) (a.put d v):=by
  cases d with
  | none=>exact h
  | some d =>
    intro t;have hlt:=hd d rfl;simp only [putT,Act.put,gt,lk];by_cases e:t=d
    · subst e;rw [if_pos rfl];have:(a.tmps.setIfInBounds t v).getD t undef=v:=by simp [hlt]
      rw [this];exact hv
    · rw [if_neg e];have:(a.tmps.setIfInBounds d v).getD t undef=a.tmps.getD t undef:=by
        simp only [Array.getD_eq_getD_getElem?];rw [Array.getElem?_setIfInBounds,if_neg (fun e'=>e e'.symm)]
      rw [this];exact h t
theorem put_size (a:Act) (d:Option Tmp) (v:Value):(a.put d v).tmps.size=a.tmps.size:=by
  cases d <;> simp [Act.put]
theorem put_defers (a:Act) (d:Option Tmp) (v:Value):(a.put d v).defers=a.defers:=by
  cases d <;> rfl
theorem TmR.adv {tm:List (Nat × AV)} {a:Act} {S':CSet} {m':RMap} {w':World} (h:TmR w S m tm a) (hA:Adv S m w S' m' w'):TmR w' S' m' tm a:=fun t=>(h t).adv hA
theorem evG_ok (hT:TysOK P ty) (hσ:SgOK P σ) (hM:Mem X H S m w) {tm:List (Nat × AV)} {a:Act} (ht:TmR w S m tm a) {fr:Nat} (hfr:∀ i,i<8→lk H (fr+i)=none) {ops:Array Oper} {o:Oper} {out:Out} (h:evG ty σ (fun j=>(ops[j]?).bind (·.dst)) H fr tm o=some out) (hvc:out.vc)
    {K:Act→World→Prop} {Q:Exit→Act→World→Prop} (hK:∀ v w',Left X H S m w out v w'→K (a.put o.dst v) w') :
    if Region.wanted o (yielded ops a.tmps)=true then o.wp P a w K Q else K (a.put o.dst undef) w:=by
  unfold evG at h;split at h
  · rename_i hg;rw [if_pos (by simp [Region.wanted,hg])];exact evX_ok hT hσ hM (opnd_VR hM.gl.g ht) hfr h hvc hK
  · rename_i j want hg;split at h
    · rename_i d hd;split at h
      · rename_i c hc;have hw:Region.wanted o (yielded ops a.tmps)=(cndB (gt tm d) && (c == want)):=by
          simp only [Region.wanted,hg,yielded,hd,Option.bind_some];cases hcb:cndB (gt tm d) with
          | true =>
            have hv:=(ht d).strip (cndB_cnd _ hcb);rw [hc] at hv;have hv:=hv.lit_inv;have hget:a.tmps[d]? = some (.bool c):=by
              cases hq:a.tmps[d]? with
              | none=>simp [hq] at hv;cases hv
              | some u=>simp [hq] at hv;rw [hv]
            rw [hget];cases c <;> cases want <;> rfl
          | false =>
            have hv:=(ht d).undef_of hcb;cases hq:a.tmps[d]? with
            | none=>rfl
            | some u =>
              simp [hq] at hv;subst hv;rfl
        split at h
        · rename_i v vc hx;injection h with h;subst h;rw [hw];split
          · rename_i hcw;exact evX_ok hT hσ hM (opnd_VR hM.gl.g ht) hfr hx (hvc hcw) fun u w' ⟨S',m',q1,q2,q3⟩=>hK u w' ⟨S',m',q1,q2,.opt (fun _=>q3) (fun h=>absurd hcw (by rw [h];decide))⟩
          · rename_i hcw;exact hK undef w ⟨S,m,Adv.refl _ _ _,hM,.opt (fun h=>absurd h hcw) (fun _=>rfl)⟩
        · rename_i v e vc hne hx;split at h
          · rename_i hno;injection h with h;subst h;rw [hw,hno,if_neg (by decide)];exact hK undef w ⟨S,m,Adv.refl _ _ _,hM,.opt (fun h=>by cases h) (fun _=>rfl)⟩
          · injection h with h;subst h;rw [hw,if_pos hvc.1];exact evX_ok hT hσ hM (opnd_VR hM.gl.g ht) hfr hx hvc.2 fun u w' ⟨S',m',q1,q2,q3⟩=>hK u w' ⟨S',m',q1,q2,q3⟩
        · split at h
          · injection h with h;subst h;have hvc:(cndB (gt tm d) && (c == want))=false:=hvc;rw [hw,hvc,if_neg (by decide)];exact hK undef w ⟨S,m,Adv.refl _ _ _,hM,.opt (fun h=>by cases h) (fun _=>rfl)⟩
          · cases h
      · cases h
    · cases h
structure Rel (X:Cx) (s:St) (a:Act) (w:World):Prop where
  size:a.tmps.size=s.sz
  defers:a.defers=X.ex.df
  kl:∀ k,s.ctr≤k→lk s.H k=none
  mem:∃ S m,Mem X s.H S m w∧TmR w S m s.tm a
def stepS (s:St) (o:Oper) (out:Out):St:=⟨putT o.dst out.v s.tm,out.eff++s.H,s.ctr+8,s.sz⟩
def dOK (d:Option Tmp) (sz:Nat):Bool :=
  match d with
  | some d=>decide (d<sz)
  | none=>true
theorem dOK_at {d:Option Tmp} {sz:Nat} (h:dOK d sz=true):∀ t∈d,t<sz:=by
  intro t ht;obtain rfl:d=some t:=ht;simpa [dOK] using h
def okO (s:St) (o:Oper) (out:Out):Prop:=dOK o.dst s.sz=true∧out.eff.all (fun x=>decide (x.1<s.ctr+8))=true
def evL (ty:Ty) (σ:Sg) (gd:Nat→Option Tmp):List Oper→St→Option (St × Prop)
  | [],s=>some (s,True)
  | o::r,s =>
    match evG ty σ gd s.H s.ctr s.tm o with
    | some out =>
      match evL ty σ gd r (stepS s o out) with
      | some (s',vc)=>some (s',okO s o out∧out.vc∧vc)
      | none=>none
    | none=>none
theorem lk_app (e H:List (Nat × Blk)) (k:Nat) (h:∀ x∈e,x.1 ≠ k):lk (e++H) k=lk H k:=by
  induction e with
  | nil=>rfl
  | cons x e ih =>
    simp only [List.cons_append,lk];rw [if_neg (fun q=>h x (by simp) q.symm)];exact ih fun y hy=>h y (by simp [hy])
theorem Rel.step {s:St} {a:Act} {w:World} (h:Rel X s a w) {o:Oper} {out:Out} (hok:okO s o out) {S:CSet} {m:RMap} (hM:Mem X s.H S m w) (ht:TmR w S m s.tm a) {v:Value} {w':World} (hL:Left X s.H S m w out v w'):Rel X (stepS s o out) (a.put o.dst v) w':=by
  obtain ⟨S',m',q1,q2,q3⟩:=hL;refine ⟨by rw [put_size];exact h.size,by rw [put_defers];exact h.defers,fun k hk=>?_,S',m',q2,put_tm (ht.adv q1) (fun t ht=>by rw [h.size];exact dOK_at hok.1 t ht) q3⟩;have hk':s.ctr+8≤k:=hk;show lk (out.eff++s.H) k=none;rw [lk_app _ _ _ fun x hx e=>?_]
  · exact h.kl k (by omega)
  · have:=List.all_eq_true.1 hok.2 x hx;simp only [decide_eq_true_eq] at this;omega
theorem evL_ok (hT:TysOK P ty) (hσ:SgOK P σ) {ops:Array Oper} {Q:Exit→Act→World→Prop}:∀ (l:List Oper) (s s':St) (vc:Prop) (a:Act) (w:World),evL ty σ (fun j=>(ops[j]?).bind (·.dst)) l s=some (s',vc)→vc→Rel X s a w→(∀ a' w',Rel X s' a' w'→Q .normal a' w')→wpList P ops Q l a w
  | [],s,s',vc,a,w,h,_,hR,hQ=>by
    simp only [evL,Option.some.injEq,Prod.mk.injEq] at h;obtain ⟨rfl,_⟩:=h;exact hQ a w hR
  | o::r,s,s',vc,a,w,h,hvc,hR,hQ=>by
    simp only [evL] at h;split at h
    · rename_i out hout;split at h
      · rename_i s2 vc2 h2;simp only [Option.some.injEq,Prod.mk.injEq] at h;obtain ⟨rfl,rfl⟩:=h;obtain ⟨hok,v1,v2⟩:=hvc;refine wpList_step fun K hK=>?_;obtain ⟨S,m,hM,ht⟩:=hR.mem;refine evG_ok hT hσ hM ht (fun i _=>hR.kl _ (Nat.le_add_right _ _)) hout v1 fun v w' hL=>hK _ _ ?_;exact evL_ok hT hσ r _ s2 vc2 _ w' h2 v2 (hR.step hok hM ht hL) hQ
      · cases h
    · cases h
end
end Go.TravelAbs
namespace Go.TravelAbs
open Go.RowKit Go.TravelBase
def Ag (H H':List (Nat × Blk)):Prop:=∀ k b,lk H k=some b→lk H' k=some b
theorem lk_append {α:Type}:∀ (a b:List (Nat × α)) (k:Nat),lk (a++b) k=match lk a k with | some x=>some x | none=>lk b k
  | [],b,k=>rfl
  | x::a,b,k=>by
    simp only [List.cons_append,lk];split
    · rfl
    · exact lk_append a b k
theorem Ag.app {H H':List (Nat × Blk)} (h:Ag H H') (e:List (Nat × Blk)):Ag (e++H) (e++H'):=by
  intro k b hk;rw [lk_append] at hk ⊢;cases he:lk e k with
  | some x=>rw [he] at hk;exact hk
  | none=>rw [he] at hk;exact h k b hk
section
variable {ty:Ty} {σ:Sg} {H H':List (Nat × Blk)}
theorem asL_mono (h:Ag H H') {x:AV} {r:AV × Prop} (ha:asL H x=some r):asL H' x=some r:=by
  unfold asL at ha ⊢;split at ha
  · exact ha
  · exact ha
  · exact ha
  · split at ha
    · rename_i b hb;rw [h _ _ hb];exact ha
    · cases ha
  · cases ha
theorem srcA_mono (h:Ag H H') {t:Option TI} {x:AV} {r:AV × Prop} (ha:srcA H t x=some r):srcA H' t x=some r:=by
  unfold srcA at ha ⊢;split at ha
  · exact asL_mono h ha
  · exact ha
  · cases ha
theorem evM_mono (h:Ag H H') {fr:Nat} {g:Operand→AV} {op:Op} {out:Out} (he:evM ty H fr g op=some out):evM ty H' fr g op=some out:=by
  unfold evM at he ⊢;split at he
  · exact he
  · exact he
  · split at he
    · rename_i q1 ti k i off ht hs;try simp only [ht,hs]
      split at he
      · rename_i b hb;rw [h _ _ hb];exact he
      · cases he
    · rename_i q1 ti x off ht hs;try simp only [ht,hs]
      exact he
    · cases he
  · split at he
    · rename_i q1 ti k i off ht hs;try simp only [ht,hs]
      split at he
      · rename_i b hb;rw [h _ _ hb];exact he
      · cases he
    · cases he
  · exact he
  · exact he
  · exact he
  · split at he;rotate_left
    · cases he
    rename_i hz;rw [if_pos hz];split at he
    · rename_i e q1 q2 q3 y a b ht ha hb;try simp only [ht,ha,hb]
      split at he
      · rename_i te c vc hte hl;simp only [hte,asL_mono h hl];exact he
      · cases he
    · cases he
  · exact he
  · exact he
  · exact he
  · exact he
  · split at he
    · rename_i s x t u hargs hats;try simp only [hargs,hats]
      split at he
      · rename_i e q1 q2 q3 c vc ht hl;simp only [ht,srcA_mono h hl];split at he
        · rename_i te hte hs;try simp only [hte,hs]
          exact he
        · rename_i te k es i n hte hs;try simp only [hte,hs]
          split at he
          · rename_i b hb;rw [h _ _ hb];exact he
          · cases he
        · cases he
      · cases he
    · cases he
  · split at he
    · rename_i s x t u hargs hats;try simp only [hargs,hats]
      split at he
      · rename_i e q1 q2 q3 e' q4 q5 q6 c vc k es i n ht hu hl hs;simp only [ht,hu,asL_mono h hl,hs];split at he
        · rename_i te b hte hb;simp only [hte,h _ _ hb];exact he
        · cases he
      · cases he
    · cases he
  · cases he
theorem cv1_mono (h:Ag H H') {x:AV} {r:AV × List (Nat × Blk) × Prop} (he:cv1 H x=some r):cv1 H' x=some r:=by
  unfold cv1 at he ⊢;split at he
  · split at he
    · rename_i b hb;rw [h _ _ hb];exact he
    · cases he
  · exact he
theorem cvL_mono:∀ (xs:List AV) {H H':List (Nat × Blk)} (h:Ag H H') {r:List AV × List (Nat × Blk) × Prop},cvL H xs=some r→cvL H' xs=some r
  | [],_,_,_,_,he=>he
  | x::xs,H,H',h,r,he=>by
    simp only [cvL] at he ⊢;split at he
    · rename_i y e1 v1 h1;simp only [cv1_mono h h1];split at he
      · rename_i ys e2 v2 h2;simp only [cvL_mono xs (h.app e1) h2];exact he
      · cases he
    · cases he
theorem cvX_mono (h:Ag H H') {x:AV} {r:AV × List (Nat × Blk) × Prop} (he:cvX H x=some r):cvX H' x=some r:=by
  unfold cvX at he ⊢;split at he
  · split at he
    · rename_i ys e v h1;simp only [cvL_mono _ h h1];exact he
    · cases he
  · exact cv1_mono h he
theorem cvK_mono (h:Ag H H') {x:AV} {r:AV × List (Nat × Blk) × Prop} (he:cvK H x=some r):cvK H' x=some r:=by
  unfold cvK at he ⊢;split at he
  · split at he
    · rename_i b hb;rw [h _ _ hb];exact he
    · cases he
  · exact he
theorem cvKL_mono:∀ (xs:List AV) {H H':List (Nat × Blk)} (h:Ag H H') {r:List AV × List (Nat × Blk) × Prop},cvKL H xs=some r→cvKL H' xs=some r
  | [],_,_,_,_,he=>he
  | x::xs,H,H',h,r,he=>by
    simp only [cvKL] at he ⊢;split at he
    · rename_i y e1 v1 h1;simp only [cvK_mono h h1];split at he
      · rename_i ys e2 v2 h2;simp only [cvKL_mono xs (h.app e1) h2];exact he
      · cases he
    · cases he
theorem cvY_mono (h:Ag H H') {x:AV} {r:AV × List (Nat × Blk) × Prop} (he:cvY H x=some r):cvY H' x=some r:=by
  unfold cvY at he ⊢;split at he
  · split at he
    · rename_i ys e v h1;simp only [cvKL_mono _ h h1];exact he
    · cases he
  · exact cvX_mono h he
theorem cvA_mono {L:Bool}:∀ (xs:List AV) (p:Nat) {H H':List (Nat × Blk)} (h:Ag H H') {r:List AV × List Nat × List (Nat × Blk) × Prop},cvA L H xs p=some r→cvA L H' xs p=some r
  | [],_,_,_,_,_,he=>he
  | x::xs,p,H,H',h,r,he=>by
    simp only [cvA] at he ⊢;split at he
    · split at he
      · rename_i ys ks e v h1;simp only [cvA_mono xs (p+1) h h1];exact he
      · cases he
    · split at he
      · rename_i y e1 v1 h1;simp only [cvY_mono h h1];split at he
        · rename_i ys ks e2 v2 h2;simp only [cvA_mono xs p (h.app e1) h2];exact he
        · cases he
      · cases he
theorem lkAll_mono (h:Ag H H'):∀ (ks:List Nat) {bs:List Blk},lkAll H ks=some bs→lkAll H' ks=some bs
  | [],_,he=>he
  | k::ks,bs,he=>by
    simp only [lkAll] at he ⊢;split at he
    · rename_i b bs' h1 h2;simp only [h _ _ h1,lkAll_mono h ks h2];exact he
    · cases he
theorem evC_mono (h:Ag H H') {fr:Nat} {g:Operand→AV} {op:Op} {out:Out} (he:evC σ H fr g op=some out):evC σ H' fr g op=some out:=by
  unfold evC at he ⊢;split at he
  · split at he
    · rename_i fid fst caps hf;try simp only [hf]
      split at he
      · rename_i ars ks e1 v1 h1;simp only [cvA_mono _ 0 h h1];split at he
        · rename_i bs hbs;simp only [lkAll_mono (h.app e1) _ hbs];exact he
        · cases he
      · cases he
    · cases he
  · cases he
theorem evM_blind {fr:Nat} {g:Operand→AV} {op:Op} (hb:blind op=true):evM ty H fr g op=evM ty H' fr g op:=by
  unfold evM;split <;> first | rfl | (simp [blind] at hb;done) | skip
theorem evC_blind {fr:Nat} {g:Operand→AV} {op:Op} (hb:blind op=true):evC σ H fr g op=evC σ H' fr g op:=by
  unfold evC;split
  · simp [blind] at hb
  · rfl
theorem evN_blind {fr:Nat} {g:Operand→AV} {op:Op} (hb:blind op=true):evN ty H fr g op=evN ty H' fr g op:=by
  unfold evN;split <;> first | rfl | (simp [blind] at hb;done) | skip
theorem evX_blind {fr:Nat} {g:Operand→AV} {op:Op} (hb:blind op=true):evX ty σ H fr g op=evX ty σ H' fr g op:=by
  unfold evX;rw [evM_blind (H:=H) (H':=H') hb,evN_blind (H:=H) (H':=H') hb,evC_blind (H:=H) (H':=H') hb]
theorem evN_mono (h:Ag H H') {fr:Nat} {g:Operand→AV} {op:Op} {out:Out} (he:evN ty H fr g op=some out):evN ty H' fr g op=some out:=by
  unfold evN at he ⊢;split at he
  · split at he
    · cases he
    · rename_i hz;simp only [if_neg hz];split at he
      · rename_i h1 h2 h3 h4 h5;try simp only [h1,h2,h3,h4,h5]
        exact he
      · rename_i h1 h2 h3 h4 h5;try simp only [h1,h2,h3,h4,h5]
        split at he
        · rename_i te b h6 h7;simp only [h6,h _ _ h7];exact he
        · cases he
      · cases he
  · split at he
    · rename_i h1 h2;try simp only [h1,h2]
      split at he
      · rename_i te b h6 h7;simp only [h6,h _ _ h7];exact he
      · cases he
    · cases he
  · split at he
    · split at he
      · split at he
        · rename_i te b h6 h7;simp only [h _ _ h7] at he ⊢;first | exact he | simp_all
        · cases he
      · cases he
    · cases he
  · split at he
    · split at he
      · split at he
        · rename_i te b h6 h7;simp only [h _ _ h7] at he ⊢;first | exact he | simp_all
        · cases he
      · cases he
    · cases he
  · exact he
  · exact he
  · cases he
theorem evX_mono (h:Ag H H') {fr:Nat} {g:Operand→AV} {op:Op} {out:Out} (he:evX ty σ H fr g op=some out):evX ty σ H' fr g op=some out:=by
  unfold evX at he ⊢;split at he
  · exact he
  · split at he
    · rename_i out' h1;simp only [evM_mono h h1];exact he
    · split at he
      · rename_i out' h1;simp only [evN_M h1 H' fr,evN_mono h h1];exact he
      · have h2:=evC_mono h he;have:evM ty H' fr g op=none∧evN ty H' fr g op=none:=by
          unfold evC at he;split at he
          · exact ⟨rfl,rfl⟩
          · cases he
        simp only [this.1,this.2,h2]
theorem evN_congr {fr:Nat} {g g':Operand→AV} (op:Op) (h:∀ x∈op.operands.toList,g x=g' x):evN ty H fr g op=evN ty H fr g' op:=by
  cases op with
  | slice t x lo hi mx =>
    have hx:=h x (by simp [Op.operands]);cases hi with
    | none =>
      cases lo <;> cases mx <;> simp only [evN,hx]
    | some y =>
      cases mx with
      | none=>cases lo <;> rfl
      | some z =>
        have hy:=h y (by simp [Op.operands]);have hz:=h z (by simp [Op.operands]);cases lo with
        | none=>simp [evN,hx,hy,hz]
        | some l =>
          have hl:=h l (by simp [Op.operands]);simp [evN,hx,hy,hz,hl]
  | call c =>
    obtain ⟨callee,args,ats⟩:=c;have ha:∀ x∈args.toList,g x=g' x:=fun x hx=>h x (by simp only [Op.operands,Call.operands];simp;exact .inr (by simpa using hx));cases callee with
    | builtin b =>
      cases b <;> simp only [evN]
      all_goals
        split
        · rename_i s x t u e e2;have h1:=ha s (by rw [e];simp);have h2:=ha x (by rw [e];simp);simp only [h1,h2]
        · rfl
    | _=>rfl
  | sliceToArrayPointer t x=>simp only [evN,h x (by simp [Op.operands])]
  | makeFunc f first caps =>
    cases f <;> simp only [evN]
    have ha:∀ x∈first.toList,g x=g' x:=fun x hx=>h x (by simp [Op.operands];exact .inl (by simpa using hx))
    have e1:first.toList.map (fun x=>stp (g x))=first.toList.map (fun x=>stp (g' x)):=List.map_congr_left fun x hx=>by rw [ha x hx]
    have e2:(∀ x∈first.toList,cnd (g x))=(∀ x∈first.toList,cnd (g' x)):=propext ⟨fun q x hx=>by rw [← ha x hx];exact q x hx,fun q x hx=>by rw [ha x hx];exact q x hx⟩
    rw [e1,e2]
  | _=>rfl
theorem evA_congr {g g':Operand→AV} (op:Op) (h:∀ x∈op.operands.toList,g x=g' x):evA ty g op=evA ty g' op:=by
  cases op with
  | move x=>simp only [evA,h x (by simp [Op.operands])]
  | assign x=>simp only [evA,h x (by simp [Op.operands])]
  | pick c a b=>simp only [evA,h c (by simp [Op.operands]),h a (by simp [Op.operands]),h b (by simp [Op.operands])]
  | binOp o t x y u=>simp only [evA,h x (by simp [Op.operands]),h y (by simp [Op.operands])]
  | unOp o t x=>simp only [evA,h x (by simp [Op.operands])]
  | nilCheck x=>simp only [evA,h x (by simp [Op.operands])]
  | convert a b x=>simp only [evA,h x (by simp [Op.operands])]
  | extract t i=>simp only [evA,h t (by simp [Op.operands])]
  | makeFunc f first caps =>
    cases f <;> simp only [evA]
    have h1:caps.toList.map (fun x=>stp (g x))=caps.toList.map (fun x=>stp (g' x)):=List.map_congr_left fun x hx=>by rw [h x (by simp [Op.operands];exact .inr (by simpa using hx))]
    have h2:(∀ x∈caps.toList,cnd (g x))=(∀ x∈caps.toList,cnd (g' x)):=by
      apply propext
      exact ⟨fun q x hx=>by rw [← h x (by simp [Op.operands];exact .inr (by simpa using hx))];exact q x hx,fun q x hx=>by rw [h x (by simp [Op.operands];exact .inr (by simpa using hx))];exact q x hx⟩
    rw [h1,h2]
  | fieldAddr t x f=>simp only [evA,h x (by simp [Op.operands])]
  | field t x f=>simp only [evA,h x (by simp [Op.operands])]
  | indexAddr t x i=>simp only [evA,h x (by simp [Op.operands]),h i (by simp [Op.operands])]
  | index t x i=>simp only [evA,h x (by simp [Op.operands]),h i (by simp [Op.operands])]
  | slice t x lo hi mx =>
    cases mx with
    | some m=>simp only [evA]
    | none =>
      have hx:=h x (by simp [Op.operands]);cases lo with
      | none =>
        cases hi with
        | none=>simp [evA,hx]
        | some y =>
          have hy:=h y (by simp [Op.operands]);simp [evA,hx,hy]
      | some z =>
        have hz:=h z (by simp [Op.operands]);cases hi with
        | none=>simp [evA,hx,hz]
        | some y =>
          have hy:=h y (by simp [Op.operands]);simp [evA,hx,hy,hz]
  | _=>rfl
theorem all_congr {α:Type} {l:List α} {f:α→Operand} {g g':Operand→AV} (h:∀ x∈l,g (f x)=g' (f x)):(l.map fun x=>stp (g (f x)))=(l.map fun x=>stp (g' (f x)))∧(∀ x∈l,cnd (g (f x)))=(∀ x∈l,cnd (g' (f x))) :=
  ⟨List.map_congr_left fun x hx=>by rw [h x hx],propext ⟨fun q x hx=>by rw [← h x hx];exact q x hx,fun q x hx=>by rw [h x hx];exact q x hx⟩⟩
theorem parts_congr {l:List (Nat × Operand)} {g g':Operand→AV} (h:∀ p∈l,g p.2=g' p.2):(l.map fun p=>(p.1,stp (g p.2)))=(l.map fun p=>(p.1,stp (g' p.2))) :=
  List.map_congr_left fun x hx=>by rw [h x hx]
theorem evM_congr {fr:Nat} {g g':Operand→AV} (op:Op) (h:∀ x∈op.operands.toList,g x=g' x):evM ty H fr g op=evM ty H fr g' op:=by
  cases op with
  | box t x=>simp only [evM,h x (by simp [Op.operands])]
  | load t x=>simp only [evM,h x (by simp [Op.operands])]
  | store t a x=>simp only [evM,h x (by simp [Op.operands]),h a (by simp [Op.operands])]
  | build t parts =>
    have hp:∀ p∈parts.toList,g p.2=g' p.2:=fun p hp=>h p.2 (by simp only [Op.operands];simp;exact ⟨p.1,by simpa using hp⟩);simp only [evM,parts_congr hp,(all_congr (f:=fun p:Nat × Operand=>p.2) hp).2]
  | buildSlice t n parts =>
    have hp:∀ p∈parts.toList,g p.2=g' p.2:=fun p hp=>h p.2 (by simp only [Op.operands];simp;exact ⟨p.1,by simpa using hp⟩);simp only [evM,(all_congr (f:=fun p:Nat × Operand=>p.2) hp).1,(all_congr (f:=fun p:Nat × Operand=>p.2) hp).2]
  | convert t u x=>simp only [evM,h x (by simp [Op.operands])]
  | makeSlice t x y=>simp only [evM,h x (by simp [Op.operands]),h y (by simp [Op.operands])]
  | slice t x lo hi mx =>
    have hx:=h x (by simp [Op.operands]);cases lo <;> cases hi <;> cases mx <;> simp only [evM]
    rename_i y z;simp only [hx,h y (by simp [Op.operands]),h z (by simp [Op.operands])]
  | call c =>
    obtain ⟨callee,args,ats⟩:=c;have ha:∀ x∈args.toList,g x=g' x:=fun x hx=>h x (by simp only [Op.operands,Call.operands];simp;exact .inr (by simpa using hx));cases callee with
    | builtin b =>
      cases b <;> simp only [evM]
      all_goals
        first
        | rfl
        | (split
           · rename_i x y e;have h1:=ha x (by rw [e];simp);have h2:=ha y (by rw [e];simp);simp only [h1,h2]
           · rfl)
        | (split
           · rename_i s x t u e e2;have h1:=ha s (by rw [e];simp);have h2:=ha x (by rw [e];simp);simp only [h1,h2]
           · rfl)
        | (split
           · rename_i x t e e2;have h1:=ha x (by rw [e];simp);simp only [h1]
           · rfl)
    | _=>rfl
  | _=>rfl
theorem evC_congr {fr:Nat} {g g':Operand→AV} (op:Op) (h:∀ x∈op.operands.toList,g x=g' x):evC σ H fr g op=evC σ H fr g' op:=by
  cases op with
  | call c =>
    obtain ⟨callee,args,ats⟩:=c;have ha:∀ x∈args.toList,g x=g' x:=fun x hx=>h x (by simp only [Op.operands,Call.operands];simp;exact .inr (by simpa using hx));cases callee with
    | value f =>
      have hf:=h f (by simp [Op.operands,Call.operands]);simp only [evC,hf,(all_congr (f:=id) ha).1,(all_congr (f:=id) ha).2];have e1:args.toList.map (fun x=>stp (g x))=args.toList.map (fun x=>stp (g' x)):=(all_congr (f:=id) ha).1;have e2:(∀ x∈args.toList,cnd (g x))=(∀ x∈args.toList,cnd (g' x)):=(all_congr (f:=id) ha).2;rw [e1,e2]
    | _=>rfl
  | _=>rfl
theorem evX_congr {fr:Nat} {g g':Operand→AV} (op:Op) (h:∀ x∈op.operands.toList,g x=g' x):evX ty σ H fr g op=evX ty σ H fr g' op:=by
  unfold evX;rw [evA_congr op h,evM_congr op h,evN_congr op h,evC_congr op h]
end
end Go.TravelAbs
namespace Go.TravelAbs
open Go.RowKit Go.TravelBase
def WA (P:Program) (X:Cx) (c:Code) (Q:Exit→Act→World→Prop) (s:St):Prop:=∀ a w,Rel X s a w→c.wp P Q a w
section
variable {P:Program} {ty:Ty} {X:Cx} {H:List (Nat × Blk)} {S:CSet} {m:RMap} {w:World} {σ:Sg} {Q:Exit→Act→World→Prop}
theorem WA.skip {s:St} (h:∀ a w,Rel X s a w→Q .normal a w):WA P X .skip Q s:=fun a w hR=>wp_skip (h a w hR)
theorem WA.ret {s:St} (h:∀ a w,Rel X s a w→Q .ret a w):WA P X .ret Q s:=fun a w hR=>wp_ret (h a w hR)
theorem WA.block {s:St} {id:Nat} {c:Code} (h:WA P X c (Exit.inBlock id Q) s):WA P X (.block id c) Q s:=fun a w hR=>wp_block (h a w hR)
theorem WA.region {s s':St} {id:Nat} {ops:Array Oper} {vc:Prop} (hT:TysOK P ty) (hσ:SgOK P σ) (h:evL ty σ (fun j=>(ops[j]?).bind (·.dst)) ops.toList s=some (s',vc)) (hvc:vc) (hQ:∀ a w,Rel X s' a w→Q .normal a w):WA P X (.region id ops false) Q s :=
  fun a w hR=>wp_region_list (evL_ok hT hσ _ s s' vc a w h hvc hR hQ)
theorem WA.seq {s:St} {x y:Code} (h:WA P X x (Exit.then (fun a w=>y.wp P Q a w) Q) s):WA P X (.seq x y) Q s:=fun a w hR=>wp_seq (h a w hR)
theorem WA.regionS {s s':St} {id:Nat} {ops:Array Oper} {vc:Prop} {y:Code} (hT:TysOK P ty) (hσ:SgOK P σ) (h:evL ty σ (fun j=>(ops[j]?).bind (·.dst)) ops.toList s=some (s',vc)) (hvc:vc) (hy:WA P X y Q s'):WA P X (.seq (.region id ops false) y) Q s :=
  WA.seq (WA.region hT hσ h hvc hy)
theorem WA.cond {s:St} {c:Operand} {x y:Code} {b:Bool} (hc:opnd s.tm c = .lit (.bool b)) (ht:b=true→WA P X x Q s) (hf:b=false→WA P X y Q s):WA P X (.cond c x y) Q s:=fun a w hR=>by
  obtain ⟨S,m,hM,h⟩:=hR.mem;have:=opnd_VR hM.gl.g h c;rw [hc] at this;exact wp_cond_split this.lit_inv (fun e=>ht e a w hR) fun e=>hf e a w hR
theorem least {p:Nat→Prop} (h:∃ n,p n):∃ n,p n ∧ ∀ m,p m→n≤m:=by
  obtain ⟨n,hn⟩:=h;induction n using Nat.strongRecOn with
  | _ n ih =>
    by_cases h:∃ m,m<n∧p m
    · obtain ⟨m,h1,h2⟩:=h;exact ih m h1 h2
    · exact ⟨n,hn,fun m hm=>Nat.not_lt.1 fun hlt=>h ⟨m,hlt,hm⟩⟩
theorem WA.loop {I:Type} {c:Code} (st:I→St) (μ:I→Nat) (inv:I→Prop) {i0:I} (h0:inv i0) (hr:∀ i,inv i→WA P X c (Exit.then (fun a w=>∃ j,inv j∧μ j<μ i∧Rel X (st j) a w) Q) (st i)):WA P X (.loop c) Q (st i0):=by
  intro a w hR;let In:Act→World→Prop:=fun a w=>∃ i,inv i∧Rel X (st i) a w
  have hle:∀ a w,∃ n,In a w→(∃ i,inv i∧Rel X (st i) a w∧μ i=n) ∧ ∀ i,inv i→Rel X (st i) a w→n≤μ i:=by
    intro a w;by_cases h:In a w
    · obtain ⟨n,⟨i,h1,h2,h3⟩,h4⟩:=least (p:=fun n=>∃ i,inv i∧Rel X (st i) a w∧μ i=n) (by obtain ⟨i,h1,h2⟩:=h;exact ⟨_,i,h1,h2,rfl⟩);exact ⟨n,fun _=>⟨⟨i,h1,h2,h3⟩,fun j h5 h6=>h4 _ ⟨j,h5,h6,rfl⟩⟩⟩
    · exact ⟨0,fun h'=>absurd h' h⟩
  refine wp_loop In (fun a w=>Classical.choose (hle a w)) ⟨i0,h0,hR⟩ fun a w hI=>?_;obtain ⟨⟨i,h1,h2,h3⟩,_⟩:=Classical.choose_spec (hle a w) hI;refine wp_mono (hr i h1 a w h2) fun e a' w' h=>?_;cases e with
  | normal =>
    obtain ⟨j,h5,h6,h7⟩:=h;have hI':In a' w':=⟨j,h5,h7⟩;refine ⟨hI',?_⟩;have:=(Classical.choose_spec (hle a' w') hI').2 j h5 h7;show Classical.choose (hle a' w')<Classical.choose (hle a w);omega
  | _=>exact h
def Rn (ρ:Nat→Nat) (H:List (Nat × Blk)) (y0 y:AV):Prop :=
  y = .any∨(y0=y∧Tr y)∨(∃ k es i n,y = .sl k es i n∧y0 = .sl (ρ k) es i n∧(lk H k).isSome=true)∨(∃ k i off,y = .ptr k i off∧y0 = .ptr (ρ k) i off∧(lk H k).isSome=true)
theorem Rn.any {ρ:Nat→Nat} {H:List (Nat × Blk)} {y0:AV}:Rn ρ H y0 .any:=.inl rfl
theorem Rn.tr {ρ:Nat→Nat} {H:List (Nat × Blk)} {y:AV} (h:Tr y):Rn ρ H y y:=.inr (.inl ⟨rfl,h⟩)
theorem Rn.sl {ρ:Nat→Nat} {H:List (Nat × Blk)} {k k0 es i n:Nat} (h:ρ k=k0) (hs:(lk H k).isSome=true):Rn ρ H (.sl k0 es i n) (.sl k es i n):=.inr (.inr (.inl ⟨k,es,i,n,rfl,by rw [h],hs⟩))
theorem Rn.ptr {ρ:Nat→Nat} {H:List (Nat × Blk)} {k k0 i off:Nat} (h:ρ k=k0) (hs:(lk H k).isSome=true):Rn ρ H (.ptr k0 i off) (.ptr k i off):=.inr (.inr (.inr ⟨k,i,off,rfl,by rw [h],hs⟩))
theorem Rn.VR {ρ:Nat→Nat} {H':List (Nat × Blk)} {y0 y:AV} (h:Rn ρ H' y0 y) {m':RMap} (hm:∀ k b,lk H' k=some b→m' k=m (ρ k)) {v:Value} (hv:VR w S m y0 v):VR w S m' y v:=by
  rcases h with rfl | ⟨rfl,h⟩ | ⟨k,es,i,n,rfl,rfl,h⟩ | ⟨k,i,off,rfl,rfl,h⟩
  · exact .any v
  · exact h _ _ _ _ hv m'
  · obtain ⟨b,hb⟩:=Option.isSome_iff_exists.1 h;obtain ⟨r,A,h1,h2,h3,h4,h5,h6,rfl⟩:=hv.sl_inv;exact .sl ((hm k b hb).trans h1) h2 h3 h4 h5 h6
  · obtain ⟨b,hb⟩:=Option.isSome_iff_exists.1 h;obtain ⟨r,h1,rfl⟩:=hv.ptr_inv;exact .ptr ((hm k b hb).trans h1)
structure RnB (ρ:Nat→Nat) (H:List (Nat × Blk)) (b0 b:Blk):Prop where
  mode:b0.mode=b.mode
  ln:b0.ln=b.ln
  es:cE b0.c=cE b.c
  n:cN b0.c=cN b.c
  at_:∀ i,i<cN b.c→(cAt b.c i).cl.length=(cAt b0.c i).cl.length ∧ ∀ (j:Nat) (y0 y:AV),(cAt b0.c i).cl[j]? = some y0→(cAt b.c i).cl[j]? = some y→Rn ρ H y0 y
theorem RnB.tr {ρ:Nat→Nat} {H:List (Nat × Blk)} {b:Blk} (h:TrC b.c):RnB ρ H b b :=
  ⟨rfl,rfl,rfl,rfl,fun i hi=>⟨rfl,fun j y0 y h1 h2=>by rw [h1] at h2;injection h2 with h2;subst h2;exact .tr (h i hi _ (List.mem_of_getElem? h1))⟩⟩
theorem Mem.weakG (hM:Mem X H S m w) (ρ:Nat→Nat) {H':List (Nat × Blk)} (hl:∀ p,p<X.nl→ρ p=p∧(lk H' p).isSome=true) (hinj:∀ k k' b b',lk H' k=some b→lk H' k'=some b'→b.mode≤1→b'.mode≤1→ρ k=ρ k'→k=k') (hH:∀ k b,lk H' k=some b → ∃ b0,lk H (ρ k)=some b0∧(b.mode<3→RnB ρ H' b0 b)) :
    ∃ m',Mem X H' S m' w ∧ ∀ k b,lk H' k=some b→m' k=m (ρ k):=by
  let m':RMap:=fun k=>if (lk H' k).isSome=true then m (ρ k) else none
  have hm':∀ k b,lk H' k=some b→m' k=m (ρ k):=fun k b hk=>by simp [m',hk]
  refine ⟨m',⟨fun p hp=>?_,hM.frm,hM.s0,hM.s1,hM.slt,fun k hk=>by simp [m',hk],fun k b hk=>?_,fun k k' b b' r r' h1 h2 h3 h4 h5 h6 h7 h8 h9=>?_,hM.gl⟩,hm'⟩
  · obtain ⟨h1,h2⟩:=hl p hp;simp only [m',h2,if_true,h1];exact hM.lm p hp
  · obtain ⟨b0,e1,e2⟩:=hH k b hk;obtain ⟨r,f1,f2⟩:=hM.blk _ _ e1;refine ⟨r,(hm' k b hk).trans f1,fun hlt=>?_⟩;have e2:=e2 hlt;have he:=e2.es;have hn:=e2.n;have hmd:=e2.mode;have hB:=f2 (by omega);refine ⟨hB.es.trans he,by rw [← hn];exact hB.len,hB.max,fun i hi=>?_,fun q o ho=>hB.set (by omega) o (by rw [hn];exact ho),fun q hc=>?_⟩
    · obtain ⟨g1,g2⟩:=e2.at_ i hi;obtain ⟨g3,g4⟩:=hB.rd i (by omega);refine ⟨g1.trans g3,fun j y hy=>?_⟩;have hj:j<(cAt b0.c i).cl.length:=by rw [← g1];exact (List.getElem?_eq_some_iff.1 hy).1
      have hy0:=List.getElem?_eq_getElem hj;obtain ⟨u,g7,g8⟩:=g4 j _ hy0;exact ⟨u,g7,(g2 j _ y hy0 hy).VR hm' g8⟩
    · obtain ⟨g1,g2,g3⟩:=hB.row (by omega) hc;exact ⟨by rw [← e2.ln];exact g1,g2,fun o ho=>g3 o (by rw [hmd,hn];exact ho)⟩
  · obtain ⟨b0,e1,e2⟩:=hH k b h1;obtain ⟨b0',e1',e2'⟩:=hH k' b' h2;rw [hm' k b h1] at h3;rw [hm' k' b' h2] at h4;have q1:=(e2 (by omega)).mode;have q2:=(e2' (by omega)).mode;exact hinj k k' b b' h1 h2 h5 h6 (hM.inj _ _ b0 b0' r r' e1 e1' h3 h4 (by omega) (by omega) h7 h8 h9)
theorem Mem.weak (hM:Mem X H S m w) (ρ:Nat→Nat) {H':List (Nat × Blk)} (hl:∀ p,p<X.nl→ρ p=p∧(lk H' p).isSome=true) (hinj:∀ k k' b b',lk H' k=some b→lk H' k'=some b'→b.mode≤1→b'.mode≤1→ρ k=ρ k'→k=k') (hH:∀ k b,lk H' k=some b → ∃ b0,lk H (ρ k)=some b0∧RnB ρ H' b0 b) :
    ∃ m',Mem X H' S m' w ∧ ∀ k b,lk H' k=some b→m' k=m (ρ k) :=
  Mem.weakG hM ρ hl hinj fun k b hk=>(hH k b hk).imp fun b0 q=>⟨q.1,fun _=>q.2⟩
theorem lk_mem {α:Type}:∀ {l:List (Nat × α)} {k:Nat} {x:α},lk l k=some x→(k,x)∈l
  | [],k,x,h=>by cases h
  | y::l,k,x,h=>by
    simp only [lk] at h;split at h
    · rename_i e;injection h with h;subst e h;simp
    · exact List.mem_cons_of_mem _ (lk_mem h)
theorem Rel.weak {s:St} {a:Act} {w:World} (h:Rel X s a w) {s':St} (ρ:Nat→Nat) (hsz:s'.sz=s.sz) (hkl:∀ e∈s'.H,e.1<s'.ctr) (hl:∀ p,p<X.nl→ρ p=p∧(lk s'.H p).isSome=true)
    (hinj:∀ e∈s'.H,∀ e'∈s'.H,e.2.mode≤1→e'.2.mode≤1→ρ e.1=ρ e'.1→e.1=e'.1) (hH:∀ e∈s'.H,∃ b0,lk s.H (ρ e.1)=some b0∧RnB ρ s'.H b0 e.2) (ht:∀ e∈s'.tm,Rn ρ s'.H (gt s.tm e.1) e.2):Rel X s' a w:=by
  obtain ⟨S,m,hM,htm⟩:=h.mem;obtain ⟨m',hM',hm'⟩:=hM.weak ρ hl (fun k k' b b' h1 h2=>hinj _ (lk_mem h1) _ (lk_mem h2)) (fun k b hk=>hH _ (lk_mem hk));refine ⟨h.size.trans hsz.symm,h.defers,fun k hk=>?_,S,m',hM',fun t=>?_⟩
  · cases hq:lk s'.H k with
    | none=>rfl
    | some b=>have:=hkl _ (lk_mem hq);simp only at this;omega
  · unfold gt;cases hq:lk s'.tm t with
    | none=>exact .any _
    | some y=>exact (ht _ (lk_mem hq)).VR hm' (htm t)
end
end Go.TravelAbs
namespace Go.TravelAbs
open Go.RowKit Go.TravelBase
def tmArgs:List AV→Nat→List (Nat × AV)
  | [],_=>[]
  | x::r,p=>(p,x)::tmArgs r (p+1)
theorem tmArgs_lk:∀ (l:List AV) (p t:Nat),lk (tmArgs l p) (p+t)=l[t]?
  | [],p,t=>by simp [tmArgs,lk]
  | x::r,p,0=>by simp [tmArgs,lk]
  | x::r,p,t+1=>by
    simp only [tmArgs,lk];rw [if_neg (by omega),show p+(t+1)=p+1+t by omega,tmArgs_lk r (p+1) t];simp
theorem lentH_none:∀ (ls:List AV) (p k:Nat),(k<p∨p+ls.length≤k)→lk (lentH ls p) k=none
  | [],_,_,_=>rfl
  | x::r,p,k,h=>by
    simp only [List.length_cons] at h;simp only [lentH,lk];rw [if_neg (by omega)];exact lentH_none r (p+1) k (by omega)
theorem lentH_some {ls:List AV} {k:Nat} {b:Blk} (h:lk (lentH ls 0) k=some b):k<ls.length∧b=⟨ls.getD k .any,0,true⟩:=by
  rcases Nat.lt_or_ge k ls.length with hk | hk
  · have:=lentH_lk ls 0 k _ (List.getElem?_eq_getElem hk);rw [Nat.zero_add] at this;rw [this] at h;injection h with h;exact ⟨hk,by rw [← h];simp [List.getD,List.getElem?_eq_getElem hk]⟩
  · rw [lentH_none ls 0 k (.inr (by omega))] at h;cases h
def RetO (P:Program) (X:Cx) (fn:Func) (r:AV) (ls':List AV) (a:Act) (w:World):Prop :=
  ∃ v,(results fn a.tmps).run P w = .ok v w ∧ ∃ S' m',Mem X.plain ((rcv 1000 r).2++lentF X.nl ls') S' m' w∧VR w S' m' (rcv 1000 r).1 v
def RetP (P:Program) (X:Cx) (fn:Func) (r:AV) (ls':List AV) (a:Act) (w:World):Prop :=
  (a.defers=[]∧RetO P X fn r ls' a w) ∨
    ∃ D,a.defers=[{ target:=.collected D,args:=#[] }]∧w.heap[D]? = some (.deferred (some []))∧RetO P X fn r ls' a (w.putObj D (.deferred none))
def FQ (P:Program) (X:Cx) (fn:Func) (r:AV) (ls':List AV):Exit→Act→World→Prop
  | .normal,a,w=>RetP P X fn r ls' a w
  | .ret,a,w=>RetP P X fn r ls' a w
  | _,_,_=>False
theorem Mem.plain {X:Cx} {H:List (Nat × Blk)} {S:CSet} {m:RMap} {w:World} (h:Mem X H S m w):Mem X.plain H S m w :=
  ⟨h.lm,⟨h.frm.os,h.frm.tape,h.frm.output,h.frm.size,h.frm.block,fun _ _ q=>q.elim,Nat.zero_le _⟩,h.s0,h.s1,h.slt,h.dom,h.blk,h.inj,⟨h.gl.g,fun _ _ _ q=>q.elim⟩⟩
theorem cell_putO {w:World} {D:Nat} {o o':Obj} (h:w.heap[D]? = some o) (ho:o.isCells=false) (ho':o'.isCells=false) (a:Addr):(w.putObj D o').cell? a=w.cell? a:=by
  by_cases e:a.block=D
  · have h1:(w.putObj D o').heap[a.block]? = some o':=by rw [e];exact World.putObj_heap_same (Array.getElem?_eq_some_iff.1 h).1
    have h2:w.heap[a.block]? = some o:=by rw [e];exact h
    unfold World.cell?;rw [h1,h2];cases o <;> first | (cases ho;done) | (cases o' <;> first | (cases ho';done) | rfl)
  · exact World.cell?_of_block (World.putObj_heap_other e)
theorem Mem.putO {X:Cx} {H:List (Nat × Blk)} {S:CSet} {m:RMap} {w:World} (h:Mem X H S m w) {D:Nat} {o o':Obj} (hD:w.heap[D]? = some o) (ho:o.isCells=false) (ho':o'.isCells=false) (hmk:∀ x,X.ex.ob D x→x=o') (h0:X.w0.heap.size≤D):Mem X H S m (w.putObj D o'):=by
  have hc:=cell_putO hD ho ho';refine h.world (S':=S) (fun b o q=>⟨q,hc _⟩) ⟨h.frm.os,h.frm.tape,h.frm.output,by rw [World.putObj_size];exact h.frm.size,fun g hg hl=>(World.putObj_heap_other (by omega)).trans (h.frm.block g hg hl),fun g x hx=>?_,by rw [World.putObj_size];exact h.frm.lo⟩ h.s1 (fun b o q=>by rw [World.putObj_size];exact h.slt b o q) fun j bj rj h1 h2 h3 h4=>⟨World.putObj_heap_other fun e=>?_,fun _ q=>q⟩
  · by_cases e:g=D
    · subst e;rw [hmk x hx];exact World.putObj_heap_same (Array.getElem?_eq_some_iff.1 hD).1
    · exact (World.putObj_heap_other e).trans (h.frm.mark g x hx)
  · obtain ⟨r',q1,q2⟩:=h.blk j bj h1;rw [h2] at q1;injection q1 with q1;subst q1;obtain ⟨_,⟨cur,T,q3,_⟩,_⟩:=(q2 (by omega)).row h3 h4;rw [e,hD] at q3;injection q3 with q3;rw [q3] at ho;cases ho
theorem Mem.gvT {w0:World} {S0:CSet} {n:Nat} {rows:Nat→Row} {ed} {H:List (Nat × Blk)} {S:CSet} {m:RMap} {w:World} (h:Mem ⟨w0,S0,n,rows,.nilG false,ed⟩ H S m w) (b:Bool):Mem ⟨w0,S0,n,rows,.nilG b,.inl rfl⟩ H S m w:=by
  have hmi:∀ {g},Cx.mine ⟨w0,S0,n,rows,.nilG false,ed⟩ g→Cx.mine ⟨w0,S0,n,rows,.nilG b,.inl rfl⟩ g:=fun {g} h=>.inl (h.resolve_right fun q=>by cases q.1);refine ⟨h.lm,⟨h.frm.os,h.frm.tape,h.frm.output,h.frm.size,h.frm.block,fun _ _ q=>q.elim,Nat.zero_le _⟩,h.s0,fun b o q=>(h.s1 b o q).imp id hmi,h.slt,h.dom,fun k b hk=>?_,h.inj,⟨h.gl.g,fun _ _ _ q=>q.elim⟩⟩;obtain ⟨r,h1,h2⟩:=h.blk k b hk;refine ⟨r,h1,fun hm=>?_⟩;have hB:=h2 hm;refine ⟨hB.es,hB.len,hB.max,hB.rd,hB.set,fun h1 hc=>?_⟩;obtain ⟨q1,q2,q3⟩:=hB.row h1 hc;refine ⟨?_,q2,q3⟩;unfold Cx.own at q1 ⊢;split at q1
  · rename_i e;rw [if_pos e];exact q1
  · rename_i e;rw [if_neg e];exact hmi q1
theorem Mem.toF {w0:World} {S0:CSet} {n:Nat} {rows:Nat→Row} {ed} {H:List (Nat × Blk)} {S:CSet} {m:RMap} {w:World} (h:Mem ⟨w0,S0,n,rows,.nilG false,ed⟩ H S m w) (ls':List AV):Mem (cxF w0 S0 n rows ls') H S m w:=by
  have h0:=h.gvT false;have h1:=h.gvT true;cases n with
  | zero=>exact h0
  | succ n=>cases ls' with
    | nil=>exact h1
    | cons c r=>exact h0
section
variable {P:Program} {ty:Ty} {X:Cx} {H:List (Nat × Blk)} {S:CSet} {m:RMap} {w:World} {σ:Sg} {Q:Exit→Act→World→Prop}
theorem FnE.ofX {f:FuncId} {fn:Func} {c:Code} {args ls:List AV} {I:Type} {p:I→Prop} {r:I→AV} {ls':I→List AV} (hf:P.funcs[f]? = some fn) (hb:fn.body=some c) {N:Nat} (hN:fn.ntmps=N) (hn:args.length≤N) (hls:ls.length≤2000)
    (h:∀ X:Cx,X.nl=ls.length→X.ex = .nil→WA P X c (fun e a w=>∃ i,p i∧FQ P X fn (r i) (ls' i) e a w) ⟨tmArgs args 0,lentH ls 0,2000,N⟩):FnE P f args ls p r ls':=by
  subst hN;intro w S rows vs hslt hgl hvs hargs hlent hinj;let X:Cx:=⟨w,S,ls.length,rows,.nil,.inl rfl⟩
  have hM:Mem X (lentH ls 0) S (mL ls.length rows) w:=by
    refine ⟨fun p hp=>by simp only [mL];rw [if_pos (show p<ls.length from hp)],⟨rfl,rfl,rfl,Nat.le_refl _,fun _ _ _=>rfl,fun _ _ q=>q.elim,Nat.zero_le _⟩,fun _ _ q=>q,fun _ _ q=>.inl q,hslt,fun k hk=>?_,fun k b hk=>?_,fun k k' b b' q q' h1 h2 h3 h4 _ _ _ _ h9=>?_,⟨hgl,fun _ _ _ q=>q.elim⟩⟩
    · rcases Nat.lt_or_ge k ls.length with hlt | hge
      · have:=lentH_lk ls 0 k _ (List.getElem?_eq_getElem hlt);rw [Nat.zero_add,hk] at this;cases this
      · simp only [mL];rw [if_neg (by omega)]
    · obtain ⟨hlt,rfl⟩:=lentH_some hk;refine ⟨rows k,by simp only [mL];rw [if_pos hlt],fun _=>?_⟩;obtain ⟨hB,hc⟩:=hlent k (ls.getD k .any) (by simp [List.getD,List.getElem?_eq_getElem hlt]);exact ⟨hB.es,hB.len,hB.max,hB.rd,hB.set,fun hm hc=>by
        obtain ⟨_,q2,q3⟩:=hB.row hm hc;exact ⟨by show X.lent _;exact ⟨k,hlt,rfl⟩,q2,q3⟩⟩
    · obtain ⟨a1,_⟩:=lentH_some h1;obtain ⟨a2,_⟩:=lentH_some h2;simp only [mL,if_pos a1] at h3;simp only [mL,if_pos a2] at h4;injection h3 with h3;injection h4 with h4;subst h3 h4;exact hinj k k' a1 a2 h9
  refine (callsIn_wide (n:=0)).1 (callsIn_of_wp_marks hf hb trivial (wpIn_wide.2 ?_));have hR:Rel X ⟨tmArgs args 0,lentH ls 0,2000,fn.ntmps⟩ { tmps:=vs++Array.replicate (fn.ntmps-vs.size) undef,defers:=[] } w:=by
    refine ⟨by simp;omega,rfl,fun k hk=>lentH_none ls 0 k (.inr (by have:2000≤k:=hk;omega)),S,mL ls.length rows,hM,fun t=>?_⟩;have e:=tmArgs_lk args 0 t;rw [Nat.zero_add] at e;simp only [gt,e];cases ht:args[t]? with
    | none=>exact .any _
    | some x =>
      have hlt:t<vs.size:=by rw [hvs];exact (List.getElem?_eq_some_iff.1 ht).1
      have e2:(vs++Array.replicate (fn.ntmps-vs.size) undef).getD t undef=vs[t]:=by
        rw [Array.getD_eq_getD_getElem?,Array.getElem?_append_left hlt,Array.getElem?_eq_getElem hlt];rfl
      rw [e2];exact hargs t x _ ht (Array.getElem?_eq_getElem hlt)
  refine wp_mono (h X rfl rfl _ w hR) fun e a w' ⟨i,hi,hq⟩=>?_;have key:∀ a w,RetP P X fn (r i) (ls' i) a w→LeavesInM Fence.wide 0 P fn a.tmps (fun e w'=>∃ i,p i ∧ ∃ v S' m',e = .returned v∧Mem (cxF X.w0 S ls.length rows (ls' i)) ((rcv 1000 (r i)).2++lentF ls.length (ls' i)) S' m' w'∧VR w' S' m' (rcv 1000 (r i)).1 v) a.defers .returning w:=by
    rintro a w (⟨h1,v,h2,S',m',h3,h4⟩ | ⟨D,h1,hD,v,h2,S',m',h3,h4⟩)
    · rw [h1];exact ⟨v,h2,i,hi,v,S',m',rfl,Mem.toF h3 _,h4⟩
    · rw [h1];exact ⟨by simp,.inl ⟨D,_,rfl,run_takeDeferred hD,v,h2,i,hi,v,S',m',rfl,Mem.toF h3 _,h4⟩⟩
  cases e with
  | normal=>exact key a _ hq
  | ret=>exact key a _ hq
  | _=>exact hq.elim
theorem FnE.of {f:FuncId} {fn:Func} {c:Code} {args ls:List AV} {I:Type} {p:I→Prop} {r:I→AV} {ls':I→List AV} (hf:P.funcs[f]? = some fn) (hb:fn.body=some c) {N:Nat} (hN:fn.ntmps=N) (hn:args.length≤N) (hls:ls.length≤2000)
    (h:∀ X:Cx,X.nl=ls.length→WA P X c (fun e a w=>∃ i,p i∧FQ P X fn (r i) (ls' i) e a w) ⟨tmArgs args 0,lentH ls 0,2000,N⟩):FnE P f args ls p r ls' :=
  FnE.ofX hf hb hN hn hls fun X hX _=>h X hX
theorem FnE.toS {f:FuncId} {args ls:List AV} {r:AV} {ls':List AV} (h:FnE P f args ls (I:=Unit) (fun _=>True) (fun _=>r) (fun _=>ls')):FnS P f args ls r ls' :=
  fun w S rows vs a g b c d e=>(h w S rows vs a g b c d e).mono fun _ _ ⟨_,_,h⟩=>h
theorem FnS.of {f:FuncId} {fn:Func} {c:Code} {args ls:List AV} {r:AV} {ls':List AV} (hf:P.funcs[f]? = some fn) (hb:fn.body=some c) {N:Nat} (hN:fn.ntmps=N) (hn:args.length≤N) (hls:ls.length≤2000)
    (h:∀ X:Cx,X.nl=ls.length→WA P X c (FQ P X fn r ls') ⟨tmArgs args 0,lentH ls 0,2000,N⟩):FnS P f args ls r ls' :=
  (FnE.of (I:=Unit) (p:=fun _=>True) (r:=fun _=>r) (ls':=fun _=>ls') hf hb hN hn hls fun X hX a w hR=>wp_mono (h X hX a w hR) fun _ _ _ hq=>⟨(),trivial,hq⟩).toS
theorem FnS.ofX {f:FuncId} {fn:Func} {c:Code} {args ls:List AV} {r:AV} {ls':List AV} (hf:P.funcs[f]? = some fn) (hb:fn.body=some c) {N:Nat} (hN:fn.ntmps=N) (hn:args.length≤N) (hls:ls.length≤2000)
    (h:∀ X:Cx,X.nl=ls.length→X.ex = .nil→WA P X c (FQ P X fn r ls') ⟨tmArgs args 0,lentH ls 0,2000,N⟩):FnS P f args ls r ls' :=
  (FnE.ofX (I:=Unit) (p:=fun _=>True) (r:=fun _=>r) (ls':=fun _=>ls') hf hb hN hn hls fun X hX hE a w hR=>wp_mono (h X hX hE a w hR) fun _ _ _ hq=>⟨(),trivial,hq⟩).toS
def gvH:List AV→Nat→List (Nat × Blk)
  | [],_=>[]
  | c::r,p=>(p,⟨c,0,false⟩)::gvH r (p+1)
theorem gvH_lk:∀ (ls:List AV) (p i:Nat) (c:AV),ls[i]? = some c→lk (gvH ls p) (p+i)=some ⟨c,0,false⟩
  | [],_,_,_,h=>by simp at h
  | x::r,p,0,c,h=>by
    simp only [List.getElem?_cons_zero,Option.some.injEq] at h;subst h;simp [gvH,lk]
  | x::r,p,i+1,c,h=>by
    have:=gvH_lk r (p+1) i c (by simpa using h);simp only [gvH,lk];rw [if_neg (by omega),show p+(i+1)=p+1+i by omega];exact this
theorem gvH_none:∀ (ls:List AV) (p k:Nat),(k<p∨p+ls.length≤k)→lk (gvH ls p) k=none
  | [],_,_,_=>rfl
  | x::r,p,k,h=>by
    simp only [List.length_cons] at h;simp only [gvH,lk];rw [if_neg (by omega)];exact gvH_none r (p+1) k (by omega)
theorem gvH_some {ls:List AV} {k:Nat} {b:Blk} (h:lk (gvH ls 0) k=some b):k<ls.length∧b=⟨ls.getD k .any,0,false⟩:=by
  rcases Nat.lt_or_ge k ls.length with hk | hk
  · have:=gvH_lk ls 0 k _ (List.getElem?_eq_getElem hk);rw [Nat.zero_add] at this;rw [this] at h;injection h with h;exact ⟨hk,by rw [← h];simp [List.getD,List.getElem?_eq_getElem hk]⟩
  · rw [gvH_none ls 0 k (.inr (by omega))] at h;cases h
theorem FnE.ofG {f:FuncId} {fn:Func} {c:Code} {args ls:List AV} {I:Type} {p:I→Prop} {r:I→AV} {ls':I→List AV} (hf:P.funcs[f]? = some fn) (hb:fn.body=some c) {N:Nat} (hN:fn.ntmps=N) (hn:args.length≤N) (hls:ls.length≤2000) (h0:0<ls.length) (h00:∀ i,p i→ls' i=[])
    (h:∀ X:Cx,X.nl=ls.length→X.ex = .nilG true→WA P X c (fun e a w=>∃ i,p i∧FQ P X fn (r i) (ls' i) e a w) ⟨tmArgs args 0,gvH ls 0,2000,N⟩):FnE P f args ls p r ls':=by
  subst hN;intro w S rows vs hslt hgl hvs hargs hlent hinj;let X:Cx:=⟨w,S,ls.length,rows,.nilG true,.inl rfl⟩
  have hM:Mem X (gvH ls 0) S (mL ls.length rows) w:=by
    refine ⟨fun p hp=>by simp only [mL];rw [if_pos (show p<ls.length from hp)],⟨rfl,rfl,rfl,Nat.le_refl _,fun _ _ _=>rfl,fun _ _ q=>q.elim,Nat.zero_le _⟩,fun _ _ q=>q,fun _ _ q=>.inl q,hslt,fun k hk=>?_,fun k b hk=>?_,fun k k' b b' q q' h1 h2 h3 h4 _ _ _ _ h9=>?_,⟨hgl,fun _ _ _ q=>q.elim⟩⟩
    · rcases Nat.lt_or_ge k ls.length with hlt | hge
      · have:=gvH_lk ls 0 k _ (List.getElem?_eq_getElem hlt);rw [Nat.zero_add,hk] at this;cases this
      · simp only [mL];rw [if_neg (by omega)]
    · obtain ⟨hlt,rfl⟩:=gvH_some hk;refine ⟨rows k,by simp only [mL];rw [if_pos hlt],fun _=>?_⟩;obtain ⟨hB,hc⟩:=hlent k (ls.getD k .any) (by simp [List.getD,List.getElem?_eq_getElem hlt]);exact ⟨hB.es,hB.len,hB.max,hB.rd,hB.set,fun hm hc=>by
        obtain ⟨_,q2,q3⟩:=hB.row hm hc;exact ⟨by show X.mine _;exact .inr ⟨rfl,k,hlt,rfl⟩,q2,q3⟩⟩
    · obtain ⟨a1,_⟩:=gvH_some h1;obtain ⟨a2,_⟩:=gvH_some h2;simp only [mL,if_pos a1] at h3;simp only [mL,if_pos a2] at h4;injection h3 with h3;injection h4 with h4;subst h3 h4;exact hinj k k' a1 a2 h9
  refine (callsIn_wide (n:=0)).1 (callsIn_of_wp_marks hf hb trivial (wpIn_wide.2 ?_));have hR:Rel X ⟨tmArgs args 0,gvH ls 0,2000,fn.ntmps⟩ { tmps:=vs++Array.replicate (fn.ntmps-vs.size) undef,defers:=[] } w:=by
    refine ⟨by simp;omega,rfl,fun k hk=>gvH_none ls 0 k (.inr (by have:2000≤k:=hk;omega)),S,mL ls.length rows,hM,fun t=>?_⟩;have e:=tmArgs_lk args 0 t;rw [Nat.zero_add] at e;simp only [gt,e];cases ht:args[t]? with
    | none=>exact .any _
    | some x =>
      have hlt:t<vs.size:=by rw [hvs];exact (List.getElem?_eq_some_iff.1 ht).1
      have e2:(vs++Array.replicate (fn.ntmps-vs.size) undef).getD t undef=vs[t]:=by
        rw [Array.getD_eq_getD_getElem?,Array.getElem?_append_left hlt,Array.getElem?_eq_getElem hlt];rfl
      rw [e2];exact hargs t x _ ht (Array.getElem?_eq_getElem hlt)
  refine wp_mono (h X rfl rfl _ w hR) fun e a w' ⟨i,hi,hq⟩=>?_;have hF:∀ {H S' m' w'},Mem X.plain H S' m' w'→Mem (cxF X.w0 S ls.length rows (ls' i)) H S' m' w':=fun {H S' m' w'} h3=>by
    rw [h00 i hi];obtain ⟨n,hn⟩:∃ n,ls.length=n+1:=⟨ls.length-1,by omega⟩;have h3:Mem ⟨w,S,ls.length,rows,.nilG true,.inl rfl⟩ H S' m' w':=h3;show Mem (cxF w S ls.length rows []) H S' m' w';revert h3;generalize ls.length=n' at hn;subst hn;exact id
  have key:∀ a w,RetP P X fn (r i) (ls' i) a w→LeavesInM Fence.wide 0 P fn a.tmps (fun e w'=>∃ i,p i ∧ ∃ v S' m',e = .returned v∧Mem (cxF X.w0 S ls.length rows (ls' i)) ((rcv 1000 (r i)).2++lentF ls.length (ls' i)) S' m' w'∧VR w' S' m' (rcv 1000 (r i)).1 v) a.defers .returning w:=by
    rintro a w (⟨h1,v,h2,S',m',h3,h4⟩ | ⟨D,h1,hD,v,h2,S',m',h3,h4⟩)
    · rw [h1];exact ⟨v,h2,i,hi,v,S',m',rfl,hF h3,h4⟩
    · rw [h1];exact ⟨by simp,.inl ⟨D,_,rfl,run_takeDeferred hD,v,h2,i,hi,v,S',m',rfl,hF h3,h4⟩⟩
  cases e with
  | normal=>exact key a _ hq
  | ret=>exact key a _ hq
  | _=>exact hq.elim
theorem FnS.ofG {f:FuncId} {fn:Func} {c:Code} {args ls:List AV} {r:AV} (hf:P.funcs[f]? = some fn) (hb:fn.body=some c) {N:Nat} (hN:fn.ntmps=N) (hn:args.length≤N) (hls:ls.length≤2000) (h0:0<ls.length)
    (h:∀ X:Cx,X.nl=ls.length→WA P X c (FQ P X fn r []) ⟨tmArgs args 0,gvH ls 0,2000,N⟩):FnS P f args ls r [] :=
  (FnE.ofG (I:=Unit) (p:=fun _=>True) (r:=fun _=>r) (ls':=fun _=>[]) hf hb hN hn hls h0 (fun _ _=>rfl) fun X hX _ a w hR=>wp_mono (h X hX a w hR) fun _ _ _ hq=>⟨(),trivial,hq⟩).toS
def resA (ty:Ty) (H:List (Nat × Blk)) (tm:List (Nat × AV)):List ResultVar→Option (List AV × Prop)
  | []=>some ([],True)
  | .tmp t::r =>
    match resA ty H tm r with
    | some (xs,vc)=>some (gt tm t::xs,vc)
    | none=>none
  | .cell a t::r =>
    match ty t,stp (gt tm a),resA ty H tm r with
    | some ti,.ptr k i off,some (xs,vc) =>
      match lk H k with
      | some b=>some ((ldA ti (cAt b.c i) off).1::xs,cnd (gt tm a)∧b.mode<3∧i<cN b.c∧(ldA ti (cAt b.c i) off).2∧vc)
      | none=>none
    | _,_,_=>none
def resV (tmps:Array Value):ResultVar→Sem Value
  | .tmp t=>pure (tmps.getD t undef)
  | .cell a t=>do loadVar t (← asAddr (tmps.getD a undef))
theorem resA_ok (hT:TysOK P ty) (hM:Mem X H S m w) {tm:List (Nat × AV)} {a:Act} (ht:TmR w S m tm a):∀ (l:List ResultVar) (xs:List AV) (vc:Prop),resA ty H tm l=some (xs,vc)→vc →
    ∃ vs:List Value,(l.mapM (resV a.tmps)).run P w = .ok vs w∧vs.length=xs.length ∧ ∀ (j:Nat) (x:AV) (v:Value),xs[j]? = some x→vs[j]? = some v→VR w S m x v
  | [],xs,vc,h,_=>by
    simp only [resA,Option.some.injEq,Prod.mk.injEq] at h;obtain ⟨rfl,_⟩:=h;exact ⟨[],by simp,rfl,fun j x v hx=>by simp at hx⟩
  | .tmp t::r,xs,vc,h,hvc=>by
    simp only [resA] at h;split at h
    · rename_i xs' vc' h1;simp only [Option.some.injEq,Prod.mk.injEq] at h;obtain ⟨rfl,rfl⟩:=h;obtain ⟨vs,a1,a2,a3⟩:=resA_ok hT hM ht r xs' vc' h1 hvc;refine ⟨a.tmps.getD t undef::vs,by simp [List.mapM_cons,resV,a1],by simp [a2],fun j x v hx hv=>?_⟩;match j,hx,hv with
      | 0,hx,hv =>
        simp only [List.getElem?_cons_zero,Option.some.injEq] at hx hv;subst hx hv;exact ht t
      | j+1,hx,hv=>exact a3 j x v (by simpa using hx) (by simpa using hv)
    · cases h
  | .cell b t::r,xs,vc,h,hvc=>by
    simp only [resA] at h;split at h
    · rename_i q1 q2 ti k i off xs' vc' hty hs h1;split at h
      · rename_i bl hb;simp only [Option.some.injEq,Prod.mk.injEq] at h;obtain ⟨rfl,rfl⟩:=h;obtain ⟨c1,c2,c3,c4,c5⟩:=hvc;obtain ⟨vs,a1,a2,a3⟩:=resA_ok hT hM ht r xs' vc' h1 c5;have hp:=(ht b).strip c1;rw [hs] at hp;obtain ⟨row,hr,e1⟩:=hp.ptr_inv;obtain ⟨r',h2,h3⟩:=hM.blk k bl hb;rw [hr] at h2;injection h2 with h2;subst h2;obtain ⟨_,h4⟩:=(h3 c2).rd i c3;obtain ⟨u,h5,h6⟩:=ldA_ok hT hty (o:=i*row.es) (off:=off) h4 c4;have h7:(loadVar t ⟨row.g,i*row.es+off,none⟩).run P w = .ok u w:=by simpa [Instr.loadAt,Instr.sureAddr] using h5
        refine ⟨u::vs,by simp only [List.mapM_cons,resV,e1,asAddr];simp [h7,a1],by simp [a2],fun j x v hx hv=>?_⟩;match j,hx,hv with
        | 0,hx,hv =>
          simp only [List.getElem?_cons_zero,Option.some.injEq] at hx hv;subst hx hv;exact h6
        | j+1,hx,hv=>exact a3 j x v (by simpa using hx) (by simpa using hv)
      · cases h
    · cases h
mutual
def sbT:AV→AV→Prop
  | .lit v,x =>
    match x with
    | .by_ bs=>v = .slice none 0 0∧bs=[]
    | .li es xs=>v = .slice none 0 0∧xs=[]∧0<es
    | x=>AV.lit v=x
  | .agg ys,x =>
    match x with
    | .agg xs=>sbL ys xs
    | x=>AV.agg ys=x
  | y,x=>y=x
def sbL:List AV→List AV→Prop
  | [],xs=>xs=[]
  | y::ys,xs =>
    match xs with
    | []=>False
    | x::xs=>sbT y x∧sbL ys xs
end
mutual
theorem sbT_VR:∀ (y x:AV) (v:Value),sbT y x→VR w S m y v→VR w S m x v
  | .lit v0,x,v,h,hv=>by
    unfold sbT at h;obtain rfl:=hv.lit_inv;split at h
    · obtain ⟨rfl,rfl⟩:=h;exact .by_ rfl (Nat.le_refl _) (Nat.zero_le _) (fun _=>rfl) (.inl rfl)
    · obtain ⟨rfl,rfl,h3⟩:=h;exact .li (fun _=>default) rfl (Nat.le_refl _) (Nat.zero_le _) (fun _=>rfl) h3 (fun x hx=>absurd hx (by simp)) (.inl (Nat.zero_mul _)) (fun i j x y hx=>absurd hx (by simp))
    · subst h;exact hv
  | .agg ys,x,v,h,hv=>by
    unfold sbT at h;split at h
    · rename_i xs;cases hv with
      | agg hl hh =>
        rename_i cs;obtain ⟨h1,h2⟩:=sbL_VR ys xs cs.toList h (fun j x u hx hu=>hh j x u hx (by simpa using hu));exact .agg (by rw [hl,h1]) (fun j x u hx hu=>h2 j x u hx (by simpa using hu))
    · subst h;exact hv
  | .by_ _,x,v,h,hv=>by unfold sbT at h;subst h;exact hv
  | .li _ _,x,v,h,hv=>by unfold sbT at h;subst h;exact hv
  | .tup _,x,v,h,hv=>by unfold sbT at h;subst h;exact hv
  | .sl _ _ _ _,x,v,h,hv=>by unfold sbT at h;subst h;exact hv
  | .ptr _ _ _,x,v,h,hv=>by unfold sbT at h;subst h;exact hv
  | .ep _ _,x,v,h,hv=>by unfold sbT at h;subst h;exact hv
  | .clo _ _,x,v,h,hv=>by unfold sbT at h;subst h;exact hv
  | .bm _ _,x,v,h,hv=>by unfold sbT at h;subst h;exact hv
  | .asl _ _ _ _,x,v,h,hv=>by unfold sbT at h;subst h;exact hv
  | .opt _ _,x,v,h,hv=>by unfold sbT at h;subst h;exact hv
  | .fr _,x,v,h,hv=>by unfold sbT at h;subst h;exact hv
  | .any,x,v,h,hv=>by unfold sbT at h;subst h;exact hv
theorem sbL_VR:∀ (ys xs:List AV) (vs:List Value),sbL ys xs→(∀ (j:Nat) (y:AV) (u:Value),ys[j]? = some y→vs[j]? = some u→VR w S m y u)→ys.length=xs.length ∧ ∀ (j:Nat) (x:AV) (u:Value),xs[j]? = some x→vs[j]? = some u→VR w S m x u
  | [],xs,vs,h,_=>by
    unfold sbL at h;subst h;exact ⟨rfl,fun j x u hx=>absurd hx (by simp)⟩
  | y::ys,xs,vs,h,hv=>by
    unfold sbL at h;split at h
    · exact h.elim
    · rename_i x xs;match vs with
      | [] =>
        obtain ⟨q1,_⟩:=sbL_VR ys xs [] h.2 (fun j y u _ hu=>absurd hu (by simp));exact ⟨by simp [q1],fun j x u _ hu=>absurd hu (by simp)⟩
      | u0::us =>
        obtain ⟨q1,q2⟩:=sbL_VR ys xs us h.2 (fun j y u hy hu=>hv (j+1) y u (by simpa using hy) (by simpa using hu));refine ⟨by simp [q1],fun j x' u hx hu=>?_⟩;match j,hx,hu with
        | 0,hx,hu =>
          simp only [List.getElem?_cons_zero,Option.some.injEq] at hx hu;subst hx hu;exact sbT_VR y x u0 h.1 (hv 0 y u0 rfl rfl)
        | j+1,hx,hu=>exact q2 j x' u (by simpa using hx) (by simpa using hu)
end
def fz1 (H:List (Nat × Blk)) (y x:AV):Option (AV × List (Nat × Blk) × Prop) :=
  match x with
  | .fr _=>some (stp y,[],cnd y)
  | x =>
    match cvX H (stp y) with
    | some (y',e,v)=>some (x,e,cnd y∧v∧sbT y' x∧Tr x)
    | none=>none
def fzL (H:List (Nat × Blk)):List AV→List AV→Option (List AV × List (Nat × Blk) × Prop)
  | [],[]=>some ([],[],True)
  | y::ys,x::xs =>
    match fz1 H y x with
    | some (y',e1,v1) =>
      match fzL (e1++H) ys xs with
      | some (ys',e2,v2)=>some (y'::ys',e2++e1,v1∧v2)
      | none=>none
    | none=>none
  | _,_=>none
def kOf:AV→Nat
  | .sl k _ _ _=>k
  | .ptr k _ _=>k
  | _=>0
def frs (H:List (Nat × Blk)):List AV→List AV→Prop
  | y::ys,.fr c::xs=>(y=fv (kOf y) c∧lk H (kOf y)=some ⟨fc c,0,false⟩∧TrC (fc c))∧frs H ys xs
  | _::ys,_::xs=>frs H ys xs
  | _,_=>True
def frks:List AV→List AV→List Nat
  | y::ys,.fr c::xs=>kOf y::frks ys xs
  | _::ys,_::xs=>frks ys xs
  | _,_=>[]
def lnt (H:List (Nat × Blk)):List AV→Nat→Prop
  | [],_=>True
  | c::r,p=>(lk H p=some ⟨c,0,true⟩∧TrC c)∧lnt H r (p+1)
theorem lnt_at:∀ (ls:List AV) (p i:Nat) (c:AV),lnt H ls p→ls[i]? = some c→lk H (p+i)=some ⟨c,0,true⟩∧TrC c
  | [],_,_,_,_,h=>by simp at h
  | x::r,p,0,c,h,hc=>by
    simp only [List.getElem?_cons_zero,Option.some.injEq] at hc;subst hc;exact h.1
  | x::r,p,i+1,c,h,hc=>by
    rw [show p+(i+1)=p+1+i by omega];exact lnt_at r (p+1) i c h.2 (by simpa using hc)
theorem rcvL_inv:∀ (xs:List AV) (fr k:Nat) (L:List (Nat × Blk)) (b:Blk),lk ((rcvL fr xs).2++L) k=some b→(∃ j c,k=fr+j∧xs[j]? = some (.fr c)∧b=⟨fc c,0,false⟩)∨lk L k=some b
  | [],_,_,_,_,h=>.inr h
  | x::r,fr,k,L,b,h=>by
    simp only [rcvL] at h;unfold rcvP at h;split at h
    · rename_i c;simp only [List.cons_append,List.nil_append,lk] at h;split at h
      · rename_i e;injection h with h;exact .inl ⟨0,c,e,rfl,h.symm⟩
      · rcases rcvL_inv r (fr+1) k L b h with ⟨j,c',h1,h2,h3⟩ | h
        · exact .inl ⟨j+1,c',by omega,by simpa using h2,h3⟩
        · exact .inr h
    · simp only [List.nil_append] at h;rcases rcvL_inv r (fr+1) k L b h with ⟨j,c',h1,h2,h3⟩ | h
      · exact .inl ⟨j+1,c',by omega,by simpa using h2,h3⟩
      · exact .inr h
theorem fzL_ok:∀ (ys xs:List AV) (H:List (Nat × Blk)) (S:CSet) (zs:List AV) (e:List (Nat × Blk)) (vc:Prop) (vs:List Value),Mem X H S m w→(∀ (j:Nat) (y:AV) (v:Value),ys[j]? = some y→vs[j]? = some v→VR w S m y v)→vs.length=ys.length→fzL H ys xs=some (zs,e,vc)→vc →
    ∃ S',Mem X (e++H) S' m w∧Adv S m w S' m w∧zs.length=ys.length∧xs.length=ys.length∧(∀ (j:Nat) (z:AV) (v:Value),zs[j]? = some z→vs[j]? = some v→VR w S' m z v) ∧ ∀ (j:Nat) (x:AV),xs[j]? = some x→(∀ c,x ≠ .fr c)→zs[j]? = some x∧Tr x
  | [],[],H,S,zs,e,vc,vs,hM,_,_,h,_=>by
    simp only [fzL,Option.some.injEq,Prod.mk.injEq] at h;obtain ⟨rfl,rfl,_⟩:=h;exact ⟨S,hM,Adv.refl _ _ _,rfl,rfl,(fun j z v hz=>absurd hz (by simp)),(fun j x hx=>absurd hx (by simp))⟩
  | [],_::_,_,_,_,_,_,_,_,_,_,h,_=>by simp [fzL] at h
  | _::_,[],_,_,_,_,_,_,_,_,_,h,_=>by simp [fzL] at h
  | y::ys,x::xs,H,S,zs,e,vc,vs,hM,hv,hl,h,hvc=>by
    simp only [fzL] at h;split at h
    · rename_i y' e1 v1 h1;split at h
      · rename_i ys' e2 v2 h2;simp only [Option.some.injEq,Prod.mk.injEq] at h;obtain ⟨rfl,rfl,rfl⟩:=h;match vs,hl with
        | v::vs,hl =>
          have hy:∃ S1,Mem X (e1++H) S1 m w∧Adv S m w S1 m w∧VR w S1 m y' v∧((∀ c,x ≠ .fr c)→y'=x∧Tr x):=by
            unfold fz1 at h1;split at h1
            · rename_i c;simp only [Option.some.injEq,Prod.mk.injEq] at h1;obtain ⟨rfl,rfl,rfl⟩:=h1;exact ⟨S,hM,Adv.refl _ _ _,(hv 0 y v rfl rfl).strip hvc.1,fun h=>absurd rfl (h c)⟩
            · split at h1
              · rename_i y2 e3 v3 h3;simp only [Option.some.injEq,Prod.mk.injEq] at h1;obtain ⟨rfl,rfl,rfl⟩:=h1;obtain ⟨S1,a1,a2,a3,a4⟩:=cvX_ok hM ((hv 0 y v rfl rfl).strip hvc.1.1) h3 hvc.1.2.1;exact ⟨S1,a1,a2,sbT_VR _ _ _ hvc.1.2.2.1 a3,fun _=>⟨rfl,hvc.1.2.2.2⟩⟩
              · cases h1
          obtain ⟨S1,a1,a2,a3,a4⟩:=hy;obtain ⟨S2,b1,b2,b3,b4,b5,b6⟩:=fzL_ok ys xs (e1++H) S1 ys' e2 v2 vs a1 (fun j x u hx hu=>(hv (j+1) x u (by simpa using hx) (by simpa using hu)).adv a2) (by simpa using hl) h2 hvc.2;refine ⟨S2,by rw [List.append_assoc];exact b1,a2.trans b2,by simp [b3],by simp [b4],fun j z u hz hu=>?_,fun j x' hx hne=>?_⟩
          · match j,hz,hu with
            | 0,hz,hu =>
              simp only [List.getElem?_cons_zero,Option.some.injEq] at hz hu;subst hz hu;exact a3.adv b2
            | j+1,hz,hu=>exact b5 j z u (by simpa using hz) (by simpa using hu)
          · match j,hx with
            | 0,hx =>
              simp only [List.getElem?_cons_zero,Option.some.injEq] at hx;subst hx;obtain ⟨q1,q2⟩:=a4 hne;exact ⟨by simp [q1],q2⟩
            | j+1,hx=>simpa using b6 j x' (by simpa using hx) hne
      · cases h
    · cases h
theorem frs_at:∀ (ys xs:List AV) (j:Nat) (y c:AV),frs H ys xs→ys[j]? = some y→xs[j]? = some (.fr c)→y=fv (kOf y) c∧lk H (kOf y)=some ⟨fc c,0,false⟩∧TrC (fc c)
  | [],_,_,_,_,_,h,_=>by simp at h
  | _::_,[],_,_,_,_,_,h=>by simp at h
  | y0::ys,x0::xs,0,y,c,h,hy,hx=>by
    simp only [List.getElem?_cons_zero,Option.some.injEq] at hy hx;subst hy hx;exact h.1
  | y0::ys,x0::xs,j+1,y,c,h,hy,hx=>by
    refine frs_at ys xs j y c ?_ (by simpa using hy) (by simpa using hx);unfold frs at h;split at h
    · rename_i e1 e2;injection e1 with _ e1;injection e2 with _ e2;subst e1 e2;exact h.2
    · rename_i e1 e2;injection e1 with _ e1;injection e2 with _ e2;subst e1 e2;exact h
    · rename_i hne;exact absurd rfl (hne _ _ _ _ rfl)
theorem frks_mem:∀ (ys xs:List AV) (j:Nat) (y c:AV),ys[j]? = some y→xs[j]? = some (.fr c)→kOf y∈frks ys xs
  | [],_,_,_,_,h,_=>by simp at h
  | _::_,[],_,_,_,_,h=>by simp at h
  | y0::ys,x0::xs,0,y,c,hy,hx=>by
    simp only [List.getElem?_cons_zero,Option.some.injEq] at hy hx;subst hy hx;simp [frks]
  | y0::ys,x0::xs,j+1,y,c,hy,hx=>by
    have:=frks_mem ys xs j y c (by simpa using hy) (by simpa using hx);unfold frks;split
    · rename_i e1 e2;injection e1 with _ e1;injection e2 with _ e2;subst e1 e2;exact List.mem_cons_of_mem _ this
    · rename_i e1 e2;injection e1 with _ e1;injection e2 with _ e2;subst e1 e2;exact this
    · rename_i hne;exact absurd rfl (hne _ _ _ _ rfl)
theorem frks_inj:∀ (ys xs:List AV) (j j':Nat) (y y' c c':AV),(frks ys xs).Nodup→ys[j]? = some y→xs[j]? = some (.fr c)→ys[j']? = some y'→xs[j']? = some (.fr c')→kOf y=kOf y'→j=j'
  | [],_,_,_,_,_,_,_,_,h,_,_,_,_=>by simp at h
  | _::_,[],_,_,_,_,_,_,_,_,h,_,_,_=>by simp at h
  | y0::ys,x0::xs,j,j',y,y',c,c',hnd,hy,hx,hy',hx',he=>by
    have htail:(frks ys xs).Nodup:=by
      unfold frks at hnd;split at hnd
      · rename_i e1 e2;injection e1 with _ e1;injection e2 with _ e2;subst e1 e2;exact (List.nodup_cons.1 hnd).2
      · rename_i e1 e2;injection e1 with _ e1;injection e2 with _ e2;subst e1 e2;exact hnd
      · rename_i hne;exact absurd rfl (hne _ _ _ _ rfl)
    match j,j',hy,hx,hy',hx' with
    | 0,0,_,_,_,_=>rfl
    | j+1,j'+1,hy,hx,hy',hx' =>
      rw [frks_inj ys xs j j' y y' c c' htail (by simpa using hy) (by simpa using hx) (by simpa using hy') (by simpa using hx') he]
    | 0,j'+1,hy,hx,hy',hx' =>
      exfalso;simp only [List.getElem?_cons_zero,Option.some.injEq] at hy hx;subst hy hx;have:=frks_mem ys xs j' y' c' (by simpa using hy') (by simpa using hx');simp only [frks,List.nodup_cons] at hnd;exact hnd.1 (he ▸ this)
    | j+1,0,hy,hx,hy',hx' =>
      exfalso;simp only [List.getElem?_cons_zero,Option.some.injEq] at hy' hx';subst hy' hx';have:=frks_mem ys xs j y c (by simpa using hy) (by simpa using hx);simp only [frks,List.nodup_cons] at hnd;exact hnd.1 (he ▸ this)
def isT:AV→Bool
  | .tup _=>true
  | _=>false
def mkR:List AV→AV
  | [x]=>x
  | xs=>.tup xs
theorem rcv_single {x:AV} (h:isT x=false) (fr:Nat):rcv fr x=rcvP fr x:=by
  cases x <;> first | rfl | cases h
theorem rcvL_single (x:AV) (fr:Nat):(rcvL fr [x]).2=(rcvP fr x).2:=by simp [rcvL]
theorem exit_ok (hT:TysOK P ty) {s:St} {a:Act} {w:World} (hR:∃ S m,Mem X.plain s.H S m w∧TmR w S m s.tm a) {fn:Func} {ys zs xs:List AV} {e:List (Nat × Blk)} {ls':List AV} {v0 v1:Prop} (hres:resA ty s.H s.tm fn.results.toList=some (ys,v0)) (hv0:v0) (hfz:fzL s.H ys xs=some (zs,e,v1)) (hv1:v1)
    (hfr:frs (e++s.H) zs xs) (hnd:(frks zs xs).Nodup) (hln:lnt (e++s.H) ls' 0) (hnl:X.nl=ls'.length∨ls'=[]) (h1000:X.nl<1000) (hsg:∀ x,xs=[x]→isT x=false) :
    RetO P X fn (mkR xs) ls' a w:=by
  obtain ⟨S,m,hM,ht⟩:=hR;obtain ⟨vs,a1,a2,a3⟩:=resA_ok hT hM ht _ ys v0 hres hv0;obtain ⟨S1,b1,b2,b3,b4,b5,b6⟩:=fzL_ok ys xs s.H S zs e v1 vs hM a3 a2 hfz hv1;let ρ:Nat→Nat:=fun k=>if k<1000 then k else kOf (zs.getD (k-1000) .any)
  have hrcv:(rcv 1000 (mkR xs)).2=(rcvL 1000 xs).2:=by
    match xs,hsg with
    | [],_=>rfl
    | [x],hsg =>
      rw [show mkR [x]=x from rfl,rcv_single (hsg x rfl),rcvL_single]
    | _::_::_,_=>rfl
  have hcase:∀ k b,lk ((rcvL 1000 xs).2++lentF X.nl ls') k=some b→(∃ j c y,k=1000+j∧xs[j]? = some (.fr c)∧b=⟨fc c,0,false⟩∧zs[j]? = some y∧ρ k=kOf y∧y=fv (kOf y) c∧lk (e++s.H) (kOf y)=some ⟨fc c,0,false⟩∧TrC (fc c)) ∨
      (k<1000∧k<X.nl∧ρ k=k∧lk (e++s.H) k=some b∧b.ln=true∧TrC b.c)∨(b.mode=3∧ρ k=k ∧ ∃ b0,lk (e++s.H) k=some b0):=by
    intro k b hk;rcases rcvL_inv _ _ _ _ _ hk with ⟨j,c,h1,h2,h3⟩ | h
    · left;have hj:j<zs.length:=by rw [b3,← b4];exact (List.getElem?_eq_some_iff.1 h2).1
      have hy:=getD_of_lt (d:=AV.any) hj;obtain ⟨q1,q2,q3⟩:=frs_at zs xs j _ c hfr hy h2;exact ⟨j,c,zs.getD j .any,h1,h2,h3,hy,by simp only [ρ,h1];rw [if_neg (by omega),Nat.add_sub_cancel_left],q1,q2,q3⟩
    · right;rcases hnl with hnl | rfl
      case inr =>
        cases hn:X.nl with
        | zero=>rw [hn] at h;cases h
        | succ n =>
          rw [hn] at h;have h:lk (lentZ (n+1)) k=some b:=h;rw [lentZ_lk] at h;split at h
          · rename_i hk;injection h with h;subst h;refine .inr ⟨rfl,by simp only [ρ];rw [if_pos (by omega)],?_⟩;cases hq:lk (e++s.H) k with
            | some b0=>exact ⟨b0,rfl⟩
            | none =>
              have h1:=b1.dom k hq;rw [b1.lm k (by show k<X.nl;omega)] at h1;cases h1
          · cases h
      left;rw [lentF_eq hnl.symm] at h;obtain ⟨h1,rfl⟩:=lentH_some h;have:=lnt_at ls' 0 k _ hln (List.getElem?_eq_getElem h1);rw [Nat.zero_add] at this;have e1:ls'.getD k .any=ls'[k]:=by simp [List.getD,List.getElem?_eq_getElem h1]
      rw [e1];exact ⟨by omega,by omega,by simp only [ρ];rw [if_pos (by omega)],this.1,rfl,this.2⟩
  obtain ⟨m',hM',hm'⟩:=b1.weakG ρ (H':=(rcvL 1000 xs).2++lentF X.nl ls') (fun p hp=>by
    have hp:p<X.nl:=hp;refine ⟨by simp only [ρ];rw [if_pos (by omega)],?_⟩;rw [rcvL_lo _ _ _ _ (by omega)];rcases hnl with hnl | rfl
    · rw [lentF_lk hp (List.getElem?_eq_getElem (by omega))];rfl
    · cases hn:X.nl with
      | zero=>omega
      | succ n =>
        show (lk (lentZ (n+1)) p).isSome=true;rw [lentZ_lk,if_pos (by omega)];rfl) (fun k k' b b' h1 h2 hm1 hm2 he=>by
    rcases hcase k b h1 with ⟨j,c,y,p1,p2,p3,p4,p5,p6,p7,p8⟩ | ⟨p1,p2,p3,p4,p5,p6⟩ | ⟨p1,_⟩ <;> rcases hcase k' b' h2 with ⟨j',c',y',r1,r2,r3,r4,r5,r6,r7,r8⟩ | ⟨r1,r2,r3,r4,r5,r6⟩ | ⟨r1,_⟩
    case inr.inr.inl=>omega
    case inr.inr.inr.inl=>omega
    case inr.inr.inr.inr=>omega
    case inl.inr.inr=>omega
    case inr.inl.inr.inr=>omega
    · have:=frks_inj zs xs j j' y y' c c' hnd p4 p2 r4 r2 (by rw [← p5,← r5];exact he);omega
    · exfalso;rw [p5,r3] at he;rw [he,r4] at p7;injection p7 with p7;rw [p7] at r5;cases r5
    · exfalso;rw [p3,r5] at he;rw [← he,p4] at r7;injection r7 with r7;rw [r7] at p5;cases p5
    · rw [p3,r3] at he;exact he) (fun k b hk=>by
    rcases hcase k b hk with ⟨j,c,y,p1,p2,p3,p4,p5,p6,p7,p8⟩ | ⟨p1,p2,p3,p4,p5,p6⟩ | ⟨p1,p2,b0,p3⟩
    · exact ⟨_,by rw [p5];exact p7,fun _=>by rw [p3];exact .tr p8⟩
    · exact ⟨b,by rw [p3];exact p4,fun _=>.tr p6⟩
    · exact ⟨b0,by rw [p2];exact p3,fun h=>by omega⟩)
  have hpart:∀ (j:Nat) (x:AV) (v:Value),xs[j]? = some x→vs[j]? = some v→VR w S1 m' (rcvP (1000+j) x).1 v:=by
    intro j x v hx hv;have hj:j<zs.length:=by rw [b3,← b4];exact (List.getElem?_eq_some_iff.1 hx).1
    have hz:=getD_of_lt (d:=AV.any) hj;have hzv:=b5 j _ v hz hv;unfold rcvP;split
    · rename_i c;obtain ⟨q1,q2,q3⟩:=frs_at zs xs j _ c hfr hz hx;have hlk:=rcvL_lk xs 1000 j c (lentF X.nl ls') hx;have hk:∀ r,m (kOf (zs.getD j .any))=some r→m' (1000+j)=some r:=by
        intro r h1;rw [hm' _ _ hlk];simp only [ρ];rw [if_neg (by omega),Nat.add_sub_cancel_left];exact h1
      rw [q1] at hzv;revert hzv;generalize kOf (zs.getD j .any)=kk at hk;intro hzv;unfold fv at hzv ⊢;split at hzv
      · cases hzv with
        | ptr h1=>exact .ptr (hk _ h1)
      · obtain ⟨r,A,h1,h2,h3,h4,h5,h6,rfl⟩:=hzv.sl_inv;exact .sl (hk _ h1) h2 h3 h4 h5 h6
    · rename_i hne;obtain ⟨q1,q2⟩:=b6 j x hx (fun c h=>hne c h);rw [hz] at q1;injection q1 with q1;rw [q1] at hzv;exact q2 _ _ _ _ hzv m'
  have hlen:vs.length=xs.length:=by rw [a2,b4]
  have hresults:(results fn a.tmps).run P w = .ok (if h:vs.toArray.size=1 then vs.toArray[0] else .tuple vs.toArray) w:=by
    have e1:(fn.results.mapM (resV a.tmps)).run P w = .ok vs.toArray w:=by
      rw [Array.mapM_eq_mapM_toList];simp [a1]
    show ((fn.results.mapM (resV a.tmps) >>= fun vs=>pure (if h:vs.size=1 then vs[0] else .tuple vs):Sem Value)).run P w=_;rw [Sem.run_bind,e1];rfl
  refine ⟨_,hresults,S1,m',by rw [hrcv];exact hM',?_⟩;match xs,hsg,hlen,hpart with
  | [x],hsg,hlen,hpart =>
    have h1:vs.length=1:=by simpa using hlen
    obtain ⟨v,rfl⟩:=List.length_eq_one_iff.1 h1;rw [show mkR [x]=x from rfl,rcv_single (hsg x rfl)]
    simpa using hpart 0 x v rfl rfl
  | [],_,hlen,hpart =>
    have h1:vs=[]:=List.eq_nil_of_length_eq_zero (by simpa using hlen);subst h1;exact .tup rfl fun j x u hx=>by simp [rcvL] at hx
  | x::x'::r,_,hlen,hpart =>
    rw [dif_neg (by simp [hlen])];refine .tup (by simp [rcvL_len,hlen]) fun j y u hy hu=>?_;rw [rcvL_at] at hy;obtain ⟨z,h1,rfl⟩:=Option.map_eq_some_iff.1 hy;exact hpart j z u h1 (by simpa using hu)
end
end Go.TravelAbs
