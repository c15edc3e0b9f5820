import Derived.Test.YtjjkfpbkmhfckaaGreatDoorK00
import Derived.BigRegion
import Derived.Handy
import Derived.Laws.Rows
import Derived.Deep.MidRow
import Derived.Deep.AppendSrc
import Derived.Lib.ConvBytes
import Derived.Laws.StructEq
import Derived.ChangeKeysEq
import Derived.RangeFuncNested
set_option linter.unusedVariables false
set_option linter.unusedSimpArgs false
set_option maxHeartbeats 1000000
set_option maxRecDepth 10000
namespace Go.TravelAbs
theorem sdA {a b:Prop} (h:b) (ha:a:=by first | omega | assumption | (simp;done) | (simp;omega) | (simp +contextual;done) | (simp_all;done) | (simp_all;omega)):a∧b:=⟨ha,h⟩
theorem agA {a:Prop} (h:a:=by first | exact Nat.le_refl _ | (simp;done) | (and_intros <;> first | omega | exact Nat.le_refl _ | (simp;done) | (simp;omega))):a:=h
theorem sm3 {α β γ:Type _} {a r:α} {b l:β} {c v:γ} (h:some (a,b,c)=some (r,l,v)):a=r∧b=l∧c=v:=by
  cases h;exact ⟨rfl,rfl,rfl⟩
open Go.RowKit Go.TravelBase
inductive AV where
  | lit (v:Value)
  | by_ (bs:List UInt8)
  | li (es:Nat) (xs:List AV)
  | agg (xs:List AV)
  | tup (xs:List AV)
  | sl (k es i n:Nat)
  | ptr (k i off:Nat)
  | ep (x:AV) (off:Nat)
  | clo (f:FuncId) (caps:List AV)
  | bm (f:FuncId) (fst:List AV)
  | asl (k i off n:Nat)
  | opt (c:Bool) (x:AV)
  | fr (x:AV)
  | any
instance:Inhabited AV:=⟨.any⟩
def AV.cl:AV→List AV
  | .agg xs=>xs
  | x=>[x]
def bA (b:UInt8):AV:=.lit (.int .u8 (b.toNat:Int))
def cN:AV→Nat
  | .by_ bs=>bs.length
  | .li _ xs=>xs.length
  | _=>0
def cE:AV→Nat
  | .li es _=>es
  | _=>1
def cAt (c:AV) (i:Nat):AV :=
  match c with
  | .by_ bs=>bA (bs.getD i 0)
  | .li _ xs=>xs.getD i .any
  | _=>.any
structure Row where
  g:Nat
  cap:Nat
  es:Nat
abbrev RMap:=Nat→Option Row
abbrev CSet:=Nat→Nat→Prop
def Lies (w:World) (S:CSet) (A:Option Addr) (k:Nat) (us:Nat→Value):Prop :=
  k=0 ∨ ∃ b off,A=some ⟨b,off,none⟩ ∧ ∀ i,i<k→S b (off+i)∧w.cell? ⟨b,off+i,none⟩=some (us i)
inductive VR (w:World) (S:CSet) (m:RMap):AV→Value→Prop
  | lit (v:Value):VR w S m (.lit v) v
  | any (v:Value):VR w S m .any v
  | opt {c:Bool} {x:AV} {v:Value} (h:c=true→VR w S m x v) (h0:c=false→v=undef):VR w S m (.opt c x) v
  | agg {xs:List AV} {cs:Array Value} (hl:cs.size=xs.length) (h:∀ (j:Nat) (x:AV) (u:Value),xs[j]? = some x→cs[j]? = some u→VR w S m x u):VR w S m (.agg xs) (.agg cs)
  | tup {xs:List AV} {cs:Array Value} (hl:cs.size=xs.length) (h:∀ (j:Nat) (x:AV) (u:Value),xs[j]? = some x→cs[j]? = some u→VR w S m x u):VR w S m (.tup xs) (.tuple cs)
  | by_ {bs:List UInt8} {A:Option Addr} {n c:Nat} (hn:bs.length=n) (hc:n≤c) (hm:c≤maxLen) (h0:A=none→c=0) (hA:Lies w S A n (fun i=>.int .u8 ((bs.getD i 0).toNat:Int))) :
      VR w S m (.by_ bs) (.slice A n c)
  | li {es:Nat} {xs:List AV} {A:Option Addr} {n c:Nat} (us:Nat→Value) (hn:xs.length=n) (hc:n≤c) (hm:c≤maxLen) (h0:A=none→c=0)
      (hes:0<es) (he:∀ x∈xs,x.cl.length=es) (hA:Lies w S A (n*es) us)
      (h:∀ (i j:Nat) (x y:AV),xs[i]? = some x→x.cl[j]? = some y→VR w S m y (us (i*es+j))):VR w S m (.li es xs) (.slice A n c)
  | sl {k es i n:Nat} {r:Row} {A:Option Addr} (hm:m k=some r) (he:r.es=es) (hi:i+n≤r.cap) (hc:r.cap≤maxLen) (hA:i<r.cap→A=some ⟨r.g,i*r.es,none⟩) (h0:A=none→r.cap-i=0) :
      VR w S m (.sl k es i n) (.slice A n (r.cap-i))
  | ptr {k i off:Nat} {r:Row} (hm:m k=some r):VR w S m (.ptr k i off) (.pointer (some ⟨r.g,i*r.es+off,none⟩))
  | ep {x:AV} {off b o:Nat} (us:Nat→Value) (hA:∀ j,j<x.cl.length→S b (o+j)∧w.cell? ⟨b,o+j,none⟩=some (us j))
      (h:∀ (j:Nat) (y:AV),x.cl[j]? = some y→VR w S m y (us j)):VR w S m (.ep x off) (.pointer (some ⟨b,o+off,none⟩))
  | clo {f:FuncId} {caps:List AV} {cs:Array Value} (hl:cs.size=caps.length) (h:∀ (j:Nat) (x:AV) (u:Value),caps[j]? = some x→cs[j]? = some u→VR w S m x u) :
      VR w S m (.clo f caps) (.func (.func f) #[] cs)
  | bm {f:FuncId} {fst:List AV} {cs:Array Value} (hl:cs.size=fst.length) (h:∀ (j:Nat) (x:AV) (u:Value),fst[j]? = some x→cs[j]? = some u→VR w S m x u):VR w S m (.bm f fst) (.func (.func f) cs #[])
  | asl {k i off n:Nat} {r:Row} (hm:m k=some r):VR w S m (.asl k i off n) (.slice (some ⟨r.g,i*r.es+off,none⟩) n n)
theorem Lies.mono {w w':World} {S S':CSet} {A:Option Addr} {k:Nat} {us:Nat→Value} (h:Lies w S A k us)
    (hS:∀ b o,S b o→S' b o∧w'.cell? ⟨b,o,none⟩=w.cell? ⟨b,o,none⟩):Lies w' S' A k us:=by
  rcases h with h | ⟨b,off,e,h⟩
  · exact .inl h
  · refine .inr ⟨b,off,e,fun i hi=>?_⟩;obtain ⟨h1,h2⟩:=h i hi;obtain ⟨h3,h4⟩:=hS b _ h1;exact ⟨h3,h4.trans h2⟩
theorem VR.mono {w w':World} {S S':CSet} {m m':RMap} (hS:∀ b o,S b o→S' b o∧w'.cell? ⟨b,o,none⟩=w.cell? ⟨b,o,none⟩) (hm:∀ k r,m k=some r→m' k=some r)
    {x:AV} {v:Value} (h:VR w S m x v):VR w' S' m' x v:=by
  induction h with
  | lit v=>exact .lit v
  | any v=>exact .any v
  | opt _ h0 ih=>exact .opt ih h0
  | agg hl _ ih=>exact .agg hl ih
  | tup hl _ ih=>exact .tup hl ih
  | by_ hn hc hM h0 hA=>exact .by_ hn hc hM h0 (hA.mono hS)
  | li us hn hc hM h0 hes he hA _ ih=>exact .li us hn hc hM h0 hes he (hA.mono hS) ih
  | sl h1 h2 h3 h4 h5 h6=>exact .sl (hm _ _ h1) h2 h3 h4 h5 h6
  | ptr h1=>exact .ptr (hm _ _ h1)
  | ep us hA _ ih=>exact .ep us (fun j hj=>by obtain ⟨h1,h2⟩:=hA j hj;obtain ⟨h3,h4⟩:=hS _ _ h1;exact ⟨h3,h4.trans h2⟩) ih
  | clo hl _ ih=>exact .clo hl ih
  | bm hl _ ih=>exact .bm hl ih
  | asl h1=>exact .asl (hm _ _ h1)
def glL:List (Nat × List Value):=[(0,[.int .u32 1116352408,.int .u32 1899447441,.int .u32 3049323471,.int .u32 3921009573,.int .u32 961987163,.int .u32 1508970993,.int .u32 2453635748,.int .u32 2870763221,.int .u32 3624381080,.int .u32 310598401,.int .u32 607225278,.int .u32 1426881987,.int .u32 1925078388,.int .u32 2162078206,.int .u32 2614888103,.int .u32 3248222580,.int .u32 3835390401,.int .u32 4022224774,.int .u32 264347078,.int .u32 604807628,.int .u32 770255983,.int .u32 1249150122,.int .u32 1555081692,.int .u32 1996064986,.int .u32 2554220882,.int .u32 2821834349,.int .u32 2952996808,.int .u32 3210313671,.int .u32 3336571891,.int .u32 3584528711,.int .u32 113926993,.int .u32 338241895,.int .u32 666307205,.int .u32 773529912,.int .u32 1294757372,.int .u32 1396182291,.int .u32 1695183700,.int .u32 1986661051,.int .u32 2177026350,.int .u32 2456956037,.int .u32 2730485921,.int .u32 2820302411,.int .u32 3259730800,.int .u32 3345764771,.int .u32 3516065817,.int .u32 3600352804,.int .u32 4094571909,.int .u32 275423344,.int .u32 430227734,.int .u32 506948616,.int .u32 659060556,.int .u32 883997877,.int .u32 958139571,.int .u32 1322822218,.int .u32 1537002063,.int .u32 1747873779,.int .u32 1955562222,.int .u32 2024104815,.int .u32 2227730452,.int .u32 2361852424,.int .u32 2428436474,.int .u32 2756734187,.int .u32 3204031479,.int .u32 3329325298])]
def glA (g:Nat):AV :=
  match glL.find? (fun x=>x.1 == g) with
  | some x=>.ep (.agg (x.2.map .lit)) 0
  | none=>.any
def GLw (w:World) (S:CSet):Prop:=∀ g,VR w S (fun _=>none) (glA g) (.pointer (some ⟨g,0,none⟩))
theorem GLw.mono {w w':World} {S S':CSet} (h:GLw w S) (hS:∀ b o,S b o→S' b o∧w'.cell? ⟨b,o,none⟩=w.cell? ⟨b,o,none⟩):GLw w' S':=fun g=>(h g).mono hS fun _ _ q=>q
theorem GLw.at_ {w:World} {S:CSet} (h:GLw w S) (m:RMap) (g:Nat):VR w S m (glA g) (.pointer (some ⟨g,0,none⟩)):=(h g).mono (fun _ _ q=>⟨q,rfl⟩) fun _ _ q=>by cases q
def AV.one:AV→Bool
  | .lit v=>v.oneCell'
  | .agg _=>false
  | .tup _=>false
  | .opt _ _=>false
  | .fr _=>false
  | .any=>false
  | _=>true
theorem VR.one {w:World} {S:CSet} {m:RMap} {x:AV} {v:Value} (h:VR w S m x v) (h1:x.one=true):v.oneCell'=true:=by
  cases h <;> first | exact h1 | rfl | cases h1
structure Blk where
  c:AV
  mode:Nat
  ln:Bool
def Rdg (w:World) (S:CSet) (m:RMap) (g es:Nat) (c:AV):Prop :=
  ∀ i,i<cN c→(cAt c i).cl.length=es ∧ ∀ j y,(cAt c i).cl[j]? = some y → ∃ u,w.cell? ⟨g,i*es+j,none⟩=some u∧VR w S m y u
structure BR (w:World) (S:CSet) (m:RMap) (own:Bool→Nat→Prop) (b:Blk) (r:Row):Prop where
  es:r.es=cE b.c
  len:cN b.c≤r.cap
  max:r.cap≤maxLen
  rd:Rdg w S m r.g r.es b.c
  set:1≤b.mode → ∀ o,o<cN b.c*r.es→S r.g o
  row:b.mode≤1→0<r.cap→own b.ln r.g∧(∃ cur T,w.heap[r.g]? = some (.cells cur T)∧cur.size=r.cap*r.es)∧(∀ o,(b.mode=0∨cN b.c*r.es≤o) → ¬ S r.g o)
theorem cell_of_heap {w w':World} {g:Nat} (h:w'.heap[g]? = w.heap[g]?) (o:Nat):w'.cell? ⟨g,o,none⟩=w.cell? ⟨g,o,none⟩:=by
  unfold World.cell?;rw [h]
theorem row_mul {i j n es:Nat} (hi:i<n) (hj:j<es):i*es+j<n*es:=by
  have:(i+1)*es≤n*es:=Nat.mul_le_mul_right es hi;rw [Nat.add_mul] at this;omega
theorem BR.keep {w w':World} {S S':CSet} {m m':RMap} {own:Bool→Nat→Prop} {b:Blk} {r:Row} (h:BR w S m own b r)
    (hS:∀ b o,S b o→S' b o∧w'.cell? ⟨b,o,none⟩=w.cell? ⟨b,o,none⟩) (hm:∀ k r,m k=some r→m' k=some r)
    (hg:b.mode≤1→0<r.cap→w'.heap[r.g]? = w.heap[r.g]? ∧ ∀ o,S' r.g o→S r.g o):BR w' S' m' own b r:=by
  refine ⟨h.es,h.len,h.max,fun i hi=>?_,fun h1 o ho=>(hS _ _ (h.set h1 o ho)).1,fun h1 hc=>?_⟩
  · obtain ⟨h1,h2⟩:=h.rd i hi;refine ⟨h1,fun j y hy=>?_⟩;obtain ⟨u,hu,hv⟩:=h2 j y hy;refine ⟨u,?_,hv.mono hS hm⟩;have hj:j<r.es:=by rw [← h1];exact (List.getElem?_eq_some_iff.1 hy).1
    have hlen:=h.len;rcases Nat.lt_or_ge 1 b.mode with hb | hb
    · exact ((hS _ _ (h.set (by omega) _ (row_mul hi hj))).2).trans hu
    · exact (cell_of_heap (hg hb (by omega)).1 _).trans hu
  · obtain ⟨h2,⟨cur,T,h3,h4⟩,h5⟩:=h.row h1 hc;obtain ⟨h6,h7⟩:=hg h1 hc;exact ⟨h2,⟨cur,T,h6.trans h3,h4⟩,fun o ho hs=>h5 o ho (h7 o hs)⟩
def lk {α:Type}:List (Nat × α)→Nat→Option α
  | [],_=>none
  | x::r,k=>if k=x.1 then some x.2 else lk r k
structure St where
  tm:List (Nat × AV)
  H:List (Nat × Blk)
  ctr:Nat
  sz:Nat
def gt (tm:List (Nat × AV)) (t:Nat):AV:=(lk tm t).getD .any
structure Ext where
  kp:Nat→Nat→Value→Prop
  ob:Nat→Obj→Prop
  nc:∀ g o,ob g o→o.isCells=false
  df:List Deferred
  lo:Nat
  gv:Bool
def Ext.nilG (b:Bool):Ext:=⟨fun _ _ _=>False,fun _ _=>False,fun _ _ h=>h.elim,[],0,b⟩
def Ext.nil:Ext:=.nilG false
structure Cx where
  w0:World
  S0:CSet
  nl:Nat
  rows:Nat→Row
  ex:Ext
  ed:ex.df=[] ∨ ∃ D,ex.df=[{ target:=.collected D,args:=#[] }]∧ex.ob D (.deferred (some []))∧w0.heap.size≤D
def Cx.plain (X:Cx):Cx:=⟨X.w0,X.S0,X.nl,X.rows,.nilG X.ex.gv,.inl rfl⟩
structure GLX (X:Cx) (w:World) (S:CSet):Prop where
  g:GLw w S
  k:∀ b o v,X.ex.kp b o v→S b o∧w.cell? ⟨b,o,none⟩=some v
theorem GLX.mono {X:Cx} {w w':World} {S S':CSet} (h:GLX X w S) (hS:∀ b o,S b o→S' b o∧w'.cell? ⟨b,o,none⟩=w.cell? ⟨b,o,none⟩):GLX X w' S' :=
  ⟨h.g.mono hS,fun b o v q=>⟨(hS b o (h.k b o v q).1).1,(hS b o (h.k b o v q).1).2.trans (h.k b o v q).2⟩⟩
def Cx.lent (X:Cx) (g:Nat):Prop:=∃ p,p<X.nl∧(X.rows p).g=g
def Cx.mine (X:Cx) (g:Nat):Prop:=X.w0.heap.size≤g∨(X.ex.gv=true∧X.lent g)
def Cx.own (X:Cx) (ln:Bool) (g:Nat):Prop:=if ln=true then X.lent g else X.mine g
structure Frm (X:Cx) (w:World):Prop where
  os:w.os=X.w0.os
  tape:w.tape=X.w0.tape
  output:w.output=X.w0.output
  size:X.w0.heap.size≤w.heap.size
  block:∀ g,g<X.w0.heap.size → ¬ X.lent g→w.heap[g]? = X.w0.heap[g]?
  mark:∀ g o,X.ex.ob g o→w.heap[g]? = some o
  lo:X.ex.lo≤w.heap.size
structure Mem (X:Cx) (H:List (Nat × Blk)) (S:CSet) (m:RMap) (w:World):Prop where
  lm:∀ p,p<X.nl→m p=some (X.rows p)
  frm:Frm X w
  s0:∀ b o,X.S0 b o→S b o
  s1:∀ b o,S b o→X.S0 b o∨X.mine b
  slt:∀ b o,S b o→b<w.heap.size
  dom:∀ k,lk H k=none→m k=none
  blk:∀ k b,lk H k=some b → ∃ r,m k=some r∧(b.mode<3→BR w S m X.own b r)
  inj:∀ k k' b b' r r',lk H k=some b→lk H k'=some b'→m k=some r→m k'=some r'→b.mode≤1→b'.mode≤1→0<r.cap→0<r'.cap→r.g=r'.g→k=k'
  gl:GLX X w S
def mset (m:RMap) (k:Nat) (r:Row):RMap:=fun j=>if j=k then some r else m j
theorem mset_le {m:RMap} {k:Nat} {r:Row} (h:m k=none∨m k=some r):∀ j q,m j=some q→mset m k r j=some q:=by
  intro j q hj;unfold mset;split
  · rename_i e;subst e;rcases h with h | h <;> rw [h] at hj
    · cases hj
    · exact hj
  · exact hj
theorem Mem.upd {X:Cx} {H:List (Nat × Blk)} {S S':CSet} {m:RMap} {w w':World} (h:Mem X H S m w) (k:Nat) (b:Blk) (r:Row) (hk:m k=none∨m k=some r)
    (hS:∀ b o,S b o→S' b o∧w'.cell? ⟨b,o,none⟩=w.cell? ⟨b,o,none⟩) (hfrm:Frm X w')
    (hs1:∀ b o,S' b o→X.S0 b o∨X.mine b) (hslt:∀ b o,S' b o→b<w'.heap.size)
    (hoth:∀ j bj rj,j ≠ k→lk H j=some bj→m j=some rj→bj.mode≤1→0<rj.cap→w'.heap[rj.g]? = w.heap[rj.g]? ∧ (∀ o,S' rj.g o→S rj.g o)∧(b.mode≤1→0<r.cap→rj.g ≠ r.g))
    (hb:b.mode<3→BR w' S' (mset m k r) X.own b r):Mem X ((k,b)::H) S' (mset m k r) w':=by
  have hle:=mset_le (k:=k) (r:=r) hk;refine ⟨fun p hp=>hle _ _ (h.lm p hp),hfrm,fun b o h0=>(hS _ _ (h.s0 b o h0)).1,hs1,hslt,?_,?_,?_,h.gl.mono hS⟩
  · intro j hj;simp only [lk] at hj;split at hj
    · cases hj
    · rename_i hne;simp only [mset,if_neg hne];exact h.dom j hj
  · intro j bj hj;simp only [lk] at hj;split at hj
    · rename_i e;injection hj with hj;subst hj e;exact ⟨r,by simp [mset],hb⟩
    · rename_i hne;obtain ⟨rj,h1,h2⟩:=h.blk j bj hj;exact ⟨rj,hle _ _ h1,fun hm=>(h2 hm).keep hS hle fun hm1 hc=>by
        obtain ⟨q1,q2,_⟩:=hoth j bj rj hne hj h1 hm1 hc;exact ⟨q1,q2⟩⟩
  · intro j j' bj bj' rj rj' h1 h2 h3 h4 h5 h6 h7 h8 h9;simp only [lk] at h1 h2;simp only [mset] at h3 h4;split at h1
    · rename_i e;split at h2
      · rename_i e';rw [e,e']
      · rename_i hne;exfalso;injection h1 with h1;subst h1;rw [if_pos e] at h3;injection h3 with h3;subst h3;rw [if_neg hne] at h4;exact (hoth j' bj' rj' hne h2 h4 h6 h8).2.2 h5 h7 h9.symm
    · rename_i hne;split at h2
      · rename_i e';exfalso;injection h2 with h2;subst h2;rw [if_pos e'] at h4;injection h4 with h4;subst h4;rw [if_neg hne] at h3;exact (hoth j bj rj hne h1 h3 h5 h7).2.2 h6 h8 h9
      · rename_i hne';rw [if_neg hne] at h3;rw [if_neg hne'] at h4;exact h.inj j j' bj bj' rj rj' h1 h2 h3 h4 h5 h6 h7 h8 h9
theorem Mem.apart {X:Cx} {H:List (Nat × Blk)} {S:CSet} {m:RMap} {w:World} (h:Mem X H S m w) {k j:Nat} {b bj:Blk} {r rj:Row} (hk:lk H k=some b) (hr:m k=some r) (hm:b.mode≤1) (hc:0<r.cap)
    (hj:lk H j=some bj) (hrj:m j=some rj) (hmj:bj.mode≤1) (hcj:0<rj.cap) (hne:j ≠ k):rj.g ≠ r.g :=
  fun e=>hne (h.inj j k bj b rj r hj hk hrj hr hmj hm hcj hc e)
theorem Mem.lt {X:Cx} {H:List (Nat × Blk)} {S:CSet} {m:RMap} {w:World} (h:Mem X H S m w) {k:Nat} {b:Blk} {r:Row} (hk:lk H k=some b) (hr:m k=some r) (hm:b.mode≤1) (hc:0<r.cap):r.g<w.heap.size:=by
  obtain ⟨r',h1,h2⟩:=h.blk k b hk;rw [hr] at h1;injection h1 with h1;subst h1;obtain ⟨_,⟨cur,T,h3,_⟩,_⟩:=(h2 (by omega)).row hm hc;rcases Nat.lt_or_ge r.g w.heap.size with hl | hl
  · exact hl
  · rw [Array.getElem?_eq_none hl] at h3;cases h3
end Go.TravelAbs
namespace Go.TravelAbs
open Go.RowKit Go.TravelBase
inductive TK where
  | one
  | int (k:IntKind)
  | bool
  | str
  | slice (e:Nat)
  | struct (fs:List (Nat × Nat × Bool))
  | array (n e:Nat)
structure TI where
  kind:TK
  size:Nat
  bytes:Nat
  zero:List Value
inductive EK where
  | int
  | bool
  | str
structure Ty where
  f:Nat→Option TI
  eq:Nat→Option (List EK)
instance:CoeFun Ty (fun _=>Nat→Option TI):=⟨Ty.f⟩
def EkOK (P:Program) (t:TypeId):EK→Prop
  | .int=>∃ k,P.underlying t=some (.int k)
  | .bool=>P.underlying t=some .bool
  | .str=>P.underlying t=some .string
def EqFs (P:Program):List Field→Nat→List EK→Prop
  | [],_,[]=>True
  | f::fs,o,k::ks=>f.name ≠ "_" ∧ f.offset=o∧EkOK P f.type k∧EqFs P fs (o+1) ks
  | _,_,_=>False
structure EqT (P:Program) (t:TypeId) (ks:List EK):Prop where
  u:P.underlying t=some (.struct (P.fieldsOf t))
  h:P.stoodInHeld t=false
  g:P.eqGuardType P.depth t=false
  fs:EqFs P (P.fieldsOf t).toList 0 ks
def rowB:Option TypeDesc→Bool
  | some (.struct _)=>true
  | some (.array _ _)=>true
  | _=>false
def fsz (P:Program) (t:TypeId):Nat:=if (P.underlying t).isSome then ((P.info? t).map (·.size)).getD 0 else 0
def fieldsB (P:Program) (fields:Array Field):List (Nat × Nat × Bool):=fields.toList.map fun f=>(f.offset,fsz P f.type,rowB (P.underlying f.type))
def KOK (P:Program) (d:TypeDesc):TK→Prop
  | .one=>rowB (some d)=false
  | .int k=>d = .int k
  | .bool=>d = .bool
  | .str=>d = .string
  | .slice e=>d = .slice e
  | .struct fs=>∃ fields,d = .struct fields∧fieldsB P fields=fs
  | .array n e=>d = .array n e
structure TyOK (P:Program) (t:TypeId) (ti:TI):Prop where
  ok:∃ i d z,P.info? t=some i∧P.underlying t=some d∧i.size=ti.size∧i.bytes=ti.bytes∧i.zero=some z∧z.cells.toList=ti.zero∧KOK P d ti.kind
def TysOK (P:Program) (ty:Ty):Prop:=(∀ t ti,ty t=some ti→TyOK P t ti) ∧ ∀ t ks,ty.eq t=some ks→EqT P t ks
def TK.row:TK→Bool
  | .struct _=>true
  | .array _ _=>true
  | _=>false
def stp:AV→AV
  | .opt _ x=>stp x
  | x=>x
def cnd:AV→Prop
  | .opt c x=>c=true∧cnd x
  | _=>True
def cndB:AV→Bool
  | .opt c x=>c && cndB x
  | _=>true
theorem cndB_cnd:∀ x:AV,cndB x=true→cnd x
  | .opt c x,h=>by
    simp only [cndB,Bool.and_eq_true] at h;exact ⟨h.1,cndB_cnd x h.2⟩
  | .lit _,_=>trivial
  | .by_ _,_=>trivial
  | .li _ _,_=>trivial
  | .agg _,_=>trivial
  | .tup _,_=>trivial
  | .sl _ _ _ _,_=>trivial
  | .ptr _ _ _,_=>trivial
  | .ep _ _,_=>trivial
  | .clo _ _,_=>trivial
  | .bm _ _,_=>trivial
  | .asl _ _ _ _,_=>trivial
  | .fr _,_=>trivial
  | .any,_=>trivial
theorem VR.undef_of {w:World} {S:CSet} {m:RMap} {x:AV} {v:Value} (h:VR w S m x v):cndB x=false→v=undef:=by
  induction h with
  | @opt c x v h h0 ih =>
    intro hc;simp only [cndB] at hc;cases c
    · exact h0 rfl
    · exact ih rfl hc
  | _=>intro hc;cases hc
theorem VR.strip {w:World} {S:CSet} {m:RMap} {x:AV} {v:Value} (h:VR w S m x v):cnd x→VR w S m (stp x) v:=by
  induction h with
  | opt h _ ih=>exact fun hc=>ih hc.1 hc.2
  | lit v=>exact fun _=>.lit v
  | any v=>exact fun _=>.any v
  | agg hl h _=>exact fun _=>.agg hl h
  | tup hl h _=>exact fun _=>.tup hl h
  | by_ h1 h2 h3 h4 h5=>exact fun _=>.by_ h1 h2 h3 h4 h5
  | li us h1 h2 h3 h4 h5 h6 h7 h8 _=>exact fun _=>.li us h1 h2 h3 h4 h5 h6 h7 h8
  | sl h1 h2 h3 h4 h5 h6=>exact fun _=>.sl h1 h2 h3 h4 h5 h6
  | ptr h1=>exact fun _=>.ptr h1
  | ep us h1 h2 _=>exact fun _=>.ep us h1 h2
  | clo hl h _=>exact fun _=>.clo hl h
  | bm hl h _=>exact fun _=>.bm hl h
  | asl h1=>exact fun _=>.asl h1
def inR (k:IntKind) (z:Int):Prop:=k.wrap z=z
def isCmp:BinOp→Bool
  | .eql | .neq | .lss | .leq | .gtr | .geq=>true
  | _=>false
def cmpI (op:BinOp) (x y:Int):Bool :=
  match op with
  | .eql=>x == y
  | .neq=>x != y
  | .lss=>x<y
  | .leq=>x≤y
  | .gtr=>x > y
  | _=>x ≥ y
def bopI (op:BinOp) (k:IntKind) (x y:Int):AV × Prop :=
  match op with
  | .add=>(.lit (.int k (x+y)),inR k (x+y))
  | .sub=>(.lit (.int k (x-y)),inR k (x-y))
  | .mul=>(.lit (.int k (x*y)),inR k (x*y))
  | .quo=>(.lit (.int k (x.tdiv y)),y ≠ 0∧inR k (x.tdiv y))
  | .rem=>(.lit (.int k (x.tmod y)),y ≠ 0)
  | .and=>(.lit (.int k (bits .and k x y)),True)
  | .or=>(.lit (.int k (bits .or k x y)),True)
  | .xor=>(.lit (.int k (bits .xor k x y)),True)
  | .andNot=>(.lit (.int k (bits .andNot k x y)),True)
  | op=>(.lit (.bool (cmpI op x y)),isCmp op=true)
def bopS (op:BinOp) (s t:ByteArray):Option AV :=
  match op with
  | .eql=>some (.lit (.bool (s.toList == t.toList)))
  | .neq=>some (.lit (.bool (!(s.toList == t.toList))))
  | _=>none
def eqCells:List AV→List AV→Option Bool
  | [],[]=>some true
  | .lit (.int k x)::r,.lit (.int k' y)::r'=>if k=k' then (eqCells r r').map (fun b=>(x == y) && b) else none
  | .lit (.bool x)::r,.lit (.bool y)::r'=>(eqCells r r').map (fun b=>(x == y) && b)
  | .lit (.string x)::r,.lit (.string y)::r'=>(eqCells r r').map (fun b=>(x == y) && b)
  | _,_=>none
def bopW (op:BinOp) (k:IntKind) (x y:Int):AV × Prop :=
  match op with
  | .add=>(.lit (.int k (k.wrap (x+y))),True)
  | .sub=>(.lit (.int k (k.wrap (x-y))),True)
  | .mul=>(.lit (.int k (k.wrap (x*y))),True)
  | op=>bopI op k x y
def isOne:Option TI→Bool
  | some ⟨.one,_,_,_⟩=>true
  | _=>false
def isOneW (t:Option TI):IntKind→Bool
  | .u32=>true
  | _=>isOne t
def eqK:List EK→List AV→List AV→Option Bool
  | [],[],[]=>some true
  | .int::ks,.lit (.int k x)::r,.lit (.int k' y)::r'=>if k=k' then (eqK ks r r').map (fun b=>(x == y) && b) else none
  | .bool::ks,.lit (.bool x)::r,.lit (.bool y)::r'=>(eqK ks r r').map (fun b=>(x == y) && b)
  | .str::ks,.lit (.string x)::r,.lit (.string y)::r'=>(eqK ks r r').map (fun b=>(x.toList == y.toList) && b)
  | _,_,_=>none
def bopE (op:BinOp) (b:Bool):Option (AV × Prop) :=
  match op with
  | .eql=>some (.lit (.bool b),True)
  | .neq=>some (.lit (.bool (!b)),True)
  | _=>none
def bop (ty:Ty) (t:TypeId) (op:BinOp) (a b:AV):Option (AV × Prop) :=
  match a,b with
  | .agg xs,.agg ys =>
    match ty.eq t with
    | some ks =>
      match eqK ks xs ys with
      | some b=>bopE op b
      | none=>none
    | none=>none
  | .lit (.int k x),.lit (.int k' y) =>
    match op with
    | .shl=>some (.lit (.int k (k.wrap (x*2 ^ (min y.toNat k.bits)))),0≤y)
    | .shr=>some (.lit (.int k (x.fdiv (2 ^ (min y.toNat k.bits)))),0≤y)
    | op=>if k=k' then some (bif isOneW (ty t) k then bopW op k x y else bopI op k x y) else none
  | .lit (.bool p),.lit (.bool q) =>
    match ty t,op with
    | some ⟨.bool,_,_,_⟩,.eql=>some (.lit (.bool (p == q)),True)
    | some ⟨.bool,_,_,_⟩,.neq=>some (.lit (.bool (!(p == q))),True)
    | _,_=>none
  | .lit (.string s),.lit (.string t)=>(bopS op s t).map fun x=>(x,True)
  | _,_=>none
def uop (op:UnOp) (a:AV):Option (AV × Prop) :=
  match op,a with
  | .not,.lit (.bool p)=>some (.lit (.bool (!p)),True)
  | .neg,.lit (.int k x)=>some (.lit (.int k (0-x)),inR k (0-x))
  | .xor,.lit (.int k x)=>some (.lit (.int k (bits .xor k (if k.signed then -1 else k.max) x)),True)
  | _,_=>none
def pickA (p:Bool) (a b:AV):AV :=
  match stp a,stp b with
  | .lit (.bool x),.lit (.bool y)=>.lit (.bool (bif p then x else y))
  | x,y=>bif p then x else y
def idx:AV→Option Int
  | .lit (.int _ i)=>some i
  | _=>none
def sub (c:AV) (i n:Nat):AV :=
  match c with
  | .by_ bs=>.by_ ((bs.drop i).take n)
  | .li es xs=>.li es ((xs.drop i).take n)
  | _=>.any
def isA:AV→Bool
  | .agg _=>true
  | _=>false
def evA (ty:Ty) (g:Operand→AV) (op:Op):Option (AV × Prop) :=
  match op with
  | .move x=>some (g x,True)
  | .assign x=>some (g x,True)
  | .nilCheck x =>
    match stp (g x) with
    | .ptr k i off=>some (.ptr k i off,cnd (g x))
    | .ep y off=>some (.ep y off,cnd (g x))
    | _=>none
  | .pick c a b =>
    match stp (g c) with
    | .lit (.bool p)=>some (pickA p (g a) (g b),cnd (g c)∧(p=true→cnd (g a))∧(p=false→cnd (g b)))
    | _=>none
  | .binOp op t x y _ =>
    match bop ty t op (stp (g x)) (stp (g y)) with
    | some (v,vc)=>some (v,cnd (g x)∧cnd (g y)∧vc)
    | none=>none
  | .unOp op _ x =>
    match uop op (stp (g x)) with
    | some (v,vc)=>some (v,cnd (g x)∧vc)
    | none=>none
  | .convert src dst x =>
    match ty src,ty dst,stp (g x) with
    | some _,some ⟨.int k,_,_,_⟩,.lit (.int _ n)=>some (.lit (.int k (k.wrap n)),cnd (g x))
    | some ⟨.slice e,_,_,_⟩,some ⟨.str,_,_,_⟩,.by_ bs =>
      match ty e with
      | some ⟨.int .u8,_,_,_⟩=>some (.lit (.string (strB bs)),cnd (g x))
      | _=>none
    | _,_,_=>none
  | .extract t i =>
    match stp (g t) with
    | .tup xs=>some (xs.getD i .any,cnd (g t)∧i<xs.length)
    | _=>none
  | .makeFunc (.func f) first caps=>if first.isEmpty then some (.clo f (caps.toList.map fun x=>stp (g x)),∀ x∈caps.toList,cnd (g x)) else none
  | .fieldAddr t x f =>
    match ty t,stp (g x) with
    | some ⟨.struct fs,_,_,_⟩,.ptr k i off=>some (.ptr k i (off+(fs.getD f (0,0,false)).1),cnd (g x)∧f<fs.length∧(fs.getD f (0,0,false)).2.1 ≠ 0)
    | some ⟨.struct fs,_,_,_⟩,.ep y off=>some (.ep y (off+(fs.getD f (0,0,false)).1),cnd (g x)∧f<fs.length∧(fs.getD f (0,0,false)).2.1 ≠ 0)
    | _,_=>none
  | .field t x f =>
    match ty t,stp (g x) with
    | some ⟨.struct fs,_,_,_⟩,.agg xs =>
      match fs[f]? with
      | some (o,s,true)=>some (.agg ((xs.drop o).take s),cnd (g x)∧s ≠ 0∧o+s≤xs.length)
      | some (o,s,false)=>some (xs.getD o .any,cnd (g x)∧s ≠ 0∧o<xs.length)
      | none=>none
    | _,_=>none
  | .indexAddr t x i =>
    match ty t,stp (g x),idx (stp (g i)) with
    | some ⟨.slice e,_,_,_⟩,.by_ bs,some z =>
      match ty e with
      | some te=>some (.ep (cAt (.by_ bs) z.toNat) 0,cnd (g x)∧cnd (g i)∧0≤z∧z<bs.length∧te.size=1)
      | none=>none
    | some ⟨.slice e,_,_,_⟩,.li es xs,some z =>
      match ty e with
      | some te=>some (.ep (cAt (.li es xs) z.toNat) 0,cnd (g x)∧cnd (g i)∧0≤z∧z<xs.length∧te.size=es∧es ≠ 0)
      | none=>none
    | some ⟨.slice e,_,_,_⟩,.sl k es j n,some z =>
      match ty e with
      | some te=>some (.ptr k (j+z.toNat) 0,cnd (g x)∧cnd (g i)∧0≤z∧z<n∧te.size=es)
      | none=>none
    | some ⟨.array n e,_,_,_⟩,.ptr k j off,some z =>
      match ty e with
      | some te=>some (.ptr k j (off+z.toNat*te.size),cnd (g x)∧cnd (g i)∧0≤z∧z<n)
      | none=>none
    | some ⟨.array n e,_,_,_⟩,.ep y off,some z =>
      match ty e with
      | some te=>some (.ep y (off+z.toNat*te.size),cnd (g x)∧cnd (g i)∧0≤z∧z<n)
      | none=>none
    | some ⟨.slice e,_,_,_⟩,.lit (.slice none _ _),some _ =>
      match ty e with
      | some te=>some (.ep (if te.kind.row=true then .agg (te.zero.map .lit) else .lit (te.zero.headD undef)) 0,False)
      | none=>none
    | _,_,_=>none
  | .index t x i =>
    match ty t,stp (g x),idx (stp (g i)) with
    | some ⟨.array n e,_,_,_⟩,.agg xs,some z =>
      match ty e with
      | some te=>if te.kind.row then none else some (xs.getD (z.toNat*te.size) .any,cnd (g x)∧cnd (g i)∧0≤z∧z<n∧z.toNat*te.size<xs.length)
      | none=>none
    | some ⟨.str,_,_,_⟩,.lit (.string s),some z=>some (.lit (.int .u8 ((s.data.toList.getD z.toNat 0).toNat:Int)),cnd (g x)∧cnd (g i)∧0≤z∧z<s.size)
    | _,_,_=>none
  | .slice t x lo hi mx =>
    match ty t with
    | some ⟨.slice e,_,_,_⟩ =>
      match mx with
      | some _=>none
      | none =>
        match stp (g x),(match lo with | none=>some 0 | some l=>idx (stp (g l))),(match hi with | none=>some (none:Option Int) | some h=>(idx (stp (g h))).map some) with
        | .by_ bs,some l,some h =>
          match ty e with
          | some te=>some (.by_ ((bs.take ((h.getD bs.length).toNat)).drop l.toNat),te.size=1∧cnd (g x)∧(∀ y∈lo,cnd (g y))∧(∀ y∈hi,cnd (g y))∧0≤l∧l≤h.getD bs.length∧h.getD bs.length≤bs.length)
          | none=>none
        | .li es xs,some l,some h =>
          match ty e with
          | some te=>some (.li es ((xs.take ((h.getD xs.length).toNat)).drop l.toNat),te.size=es∧cnd (g x)∧(∀ y∈lo,cnd (g y))∧(∀ y∈hi,cnd (g y))∧0≤l∧l≤h.getD xs.length∧h.getD xs.length≤xs.length)
          | none=>none
        | .sl k es j n,some l,some h =>
          match ty e with
          | some te=>some (.sl k es (j+l.toNat) ((h.getD n).toNat-l.toNat),te.size=es∧cnd (g x)∧(∀ y∈lo,cnd (g y))∧(∀ y∈hi,cnd (g y))∧0≤l∧l≤h.getD n∧h.getD n≤n)
          | none=>none
        | _,_,_=>none
    | _=>none
  | _=>none
end Go.TravelAbs
namespace Go.TravelAbs
open Go.RowKit Go.TravelBase
section
variable {P:Program} {ty:Ty} {w:World} {S:CSet} {m:RMap}
theorem VR.lit_inv {v u:Value} (h:VR w S m (.lit v) u):u=v:=by cases h;rfl
theorem getD_of_lt {α:Type} {l:List α} {i:Nat} {d:α} (h:i<l.length):l[i]? = some (l.getD i d):=by
  simp [List.getD,List.getElem?_eq_getElem h]
theorem bopI_ok {op:BinOp} {k:IntKind} {x y:Int} (h1:op ≠ .shl) (h2:op ≠ .shr) (hvc:(bopI op k x y).2) (t:TypeId):∃ v,(bopI op k x y).1 = .lit v∧(binOp op t (.int k x) (.int k y)).run P w = .ok v w:=by
  cases op
  case shl=>exact absurd rfl h1
  case shr=>exact absurd rfl h2
  case add=>exact ⟨_,rfl,by simp [binOp,Op.intArith];exact hvc⟩
  case sub=>exact ⟨_,rfl,by simp [binOp,Op.intArith];exact hvc⟩
  case mul=>exact ⟨_,rfl,by simp [binOp,Op.intArith];exact hvc⟩
  case quo=>exact ⟨_,rfl,by have h:inR k (x.tdiv y):=hvc.2;simp [binOp,Op.intDiv,hvc.1];exact h⟩
  case rem=>exact ⟨_,rfl,by have h:y ≠ 0:=hvc;simp [binOp,Op.intDiv,h]⟩
  case and=>exact ⟨_,rfl,by simp [binOp,Op.intBits,bits]⟩
  case or=>exact ⟨_,rfl,by simp [binOp,Op.intBits,bits]⟩
  case xor=>exact ⟨_,rfl,by simp [binOp,Op.intBits,bits]⟩
  case andNot=>exact ⟨_,rfl,by simp [binOp,Op.intBits,bits]⟩
  all_goals exact ⟨_,rfl,by simp [binOp,Op.intCmp,cmpI]⟩
theorem bopW_ok {op:BinOp} {k:IntKind} {x y:Int} (h1:op ≠ .shl) (h2:op ≠ .shr) (hvc:(bopW op k x y).2) (t:TypeId):∃ v,(bopW op k x y).1 = .lit v∧(binOp op t (.int k x) (.int k y)).run P w = .ok v w:=by
  cases op
  case add=>exact ⟨_,rfl,by simp [binOp,Op.intArith]⟩
  case sub=>exact ⟨_,rfl,by simp [binOp,Op.intArith]⟩
  case mul=>exact ⟨_,rfl,by simp [binOp,Op.intArith]⟩
  all_goals exact bopI_ok h1 h2 hvc t
theorem run_equal_bool {t:TypeId} (hu:P.underlying t=some .bool) (p q:Bool):(Op.equal t (.bool p) (.bool q)).run P w = .ok (p == q) w:=by
  unfold Op.equal;rw [show Op.maxDepth=9999+1 from rfl]
  unfold Op.equalIn;simp [run_underlying hu]
theorem run_bool_eql {t:TypeId} (hu:P.underlying t=some .bool) (p q:Bool):(binOp .eql t (.bool p) (.bool q)).run P w = .ok (.bool (p == q)) w:=by
  show ((do pure (.bool (← Op.equal t (.bool p) (.bool q))):Sem Value)).run P w=_
  simp only [Sem.run_bind,run_equal_bool hu];rfl
theorem run_bool_neq {t:TypeId} (hu:P.underlying t=some .bool) (p q:Bool):(binOp .neq t (.bool p) (.bool q)).run P w = .ok (.bool (!(p == q))) w:=by
  show ((do pure (.bool (!(← Op.equal t (.bool p) (.bool q)))):Sem Value)).run P w=_
  simp only [Sem.run_bind,run_equal_bool hu];rfl
theorem VR.agg_inv {xs:List AV} {u:Value} (h:VR w S m (.agg xs) u):∃ cs,u = .agg cs∧cs.size=xs.length ∧ ∀ (j:Nat) (x:AV) (u:Value),xs[j]? = some x→cs[j]? = some u→VR w S m x u:=by
  cases h with
  | agg hl h=>exact ⟨_,rfl,hl,h⟩
theorem plain_of {t:TypeId} {k:EK} (h:EkOK P t k):P.plainKey t=true:=by
  cases k with
  | int=>obtain ⟨k,h⟩:=h;simp [Program.plainKey,h]
  | bool=>have h:P.underlying t=some .bool:=h;simp [Program.plainKey,h]
  | str=>have h:P.underlying t=some .string:=h;simp [Program.plainKey,h]
theorem eqFields_ok {cs ds:Array Value} (d:Nat):∀ (fs:List Field) (o:Nat) (ks:List EK) (xs ys:List AV) (b:Bool),EqFs P fs o ks→eqK ks xs ys=some b →
    (∀ (j:Nat) (x:AV),xs[j]? = some x → ∃ u,cs[o+j]? = some u∧VR w S m x u)→(∀ (j:Nat) (x:AV),ys[j]? = some x → ∃ u,ds[o+j]? = some u∧VR w S m x u)→(Op.eqFields (d+1) cs ds fs).run P w = .ok b w
  | [],o,[],xs,ys,b,_,h,_,_=>by
    unfold eqK at h;split at h <;> simp_all [Op.eqFields]
  | [],_,_::_,_,_,_,h,_,_,_=>h.elim
  | _::_,_,[],_,_,_,h,_,_,_=>h.elim
  | f::fs,o,k::ks,xs,ys,b,h,he,hx,hy=>by
    obtain ⟨h1,h2,h3,h4⟩:=h;have step:∀ (x y:AV) (r r':List AV) (c:Bool),xs=x::r→ys=y::r'→eqK ks r r'=some c → ∃ u v,cs[f.offset]? = some u∧ds[f.offset]? = some v∧VR w S m x u∧VR w S m y v∧(Op.eqFields (d+1) cs ds fs).run P w = .ok c w:=by
      intro x y r r' c e1 e2 e3;subst e1 e2;obtain ⟨u,hu,hu2⟩:=hx 0 x rfl;obtain ⟨v,hv,hv2⟩:=hy 0 y rfl;refine ⟨u,v,by rw [h2];exact hu,by rw [h2];exact hv,hu2,hv2,?_⟩;exact eqFields_ok d fs (o+1) ks r r' c h4 e3 (fun j z hz=>by
        obtain ⟨q,q1,q2⟩:=hx (j+1) z (by simpa using hz);exact ⟨q,by rw [← q1];congr 1;omega,q2⟩) (fun j z hz=>by
        obtain ⟨q,q1,q2⟩:=hy (j+1) z (by simpa using hz);exact ⟨q,by rw [← q1];congr 1;omega,q2⟩)
    have fin:∀ (u v:Value) (e c:Bool),cs[f.offset]? = some u→ds[f.offset]? = some v→(Op.equalIn (d+1) f.type u v).run P w = .ok e w→(Op.eqFields (d+1) cs ds fs).run P w = .ok c w→(Op.eqFields (d+1) cs ds (f::fs)).run P w = .ok (e && c) w:=by
      intro u v e c q1 q2 q3 q4;have p1:=run_part_plain w (plain_of h3) q1;have p2:=run_part_plain w (plain_of h3) q2;simp only [Op.eqFields,h1,ne_eq,not_false_eq_true,if_true,Sem.run_bind,p1,p2,q3,Result.andThen_ok];cases e
      · simp
      · simpa using q4
    unfold eqK at he;split at he
    · rename_i e1;cases e1
    · rename_i ks' k1 x r k2 y r' e1;injection e1 with e1 e4;subst e1 e4;split at he
      · rename_i hk;subst hk;obtain ⟨c,hc,rfl⟩:=Option.map_eq_some_iff.1 he;obtain ⟨u,v,q1,q2,q3,q4,q5⟩:=step _ _ _ _ c rfl rfl hc;have q3:=q3.lit_inv;have q4:=q4.lit_inv;subst q3 q4;obtain ⟨kk,hkk⟩:=h3;exact fin _ _ _ _ q1 q2 (run_equalIn_int w d f.type _ kk x y hkk) q5
      · cases he
    · rename_i ks' x r y r' e1;injection e1 with e1 e4;subst e1 e4;obtain ⟨c,hc,rfl⟩:=Option.map_eq_some_iff.1 he;obtain ⟨u,v,q1,q2,q3,q4,q5⟩:=step _ _ _ _ c rfl rfl hc;have q3:=q3.lit_inv;have q4:=q4.lit_inv;subst q3 q4;exact fin _ _ _ _ q1 q2 (run_equalIn_bool' w d f.type x y h3) q5
    · rename_i ks' x r y r' e1;injection e1 with e1 e4;subst e1 e4;obtain ⟨c,hc,rfl⟩:=Option.map_eq_some_iff.1 he;obtain ⟨u,v,q1,q2,q3,q4,q5⟩:=step _ _ _ _ c rfl rfl hc;have q3:=q3.lit_inv;have q4:=q4.lit_inv;subst q3 q4;exact fin _ _ _ _ q1 q2 (run_equalIn_string w d f.type x y h3) q5
    · cases he
theorem struct_eq_ok {t:TypeId} {ks:List EK} (hE:EqT P t ks) {xs ys:List AV} {b:Bool} (h:eqK ks xs ys=some b) {va vb:Value} (ha:VR w S m (.agg xs) va) (hb:VR w S m (.agg ys) vb) {op:BinOp} {x:AV} {vc:Prop} (ho:bopE op b=some (x,vc)) (p q:Operand) :
    ∃ v,x = .lit v∧(do eqGuard op t p q va vb;binOp op t va vb:Sem Value).run P w = .ok v w:=by
  obtain ⟨cs,rfl,hl,hp⟩:=ha.agg_inv;obtain ⟨ds,rfl,hl',hp'⟩:=hb.agg_inv;have hcell:∀ {l:List AV} {c:Array Value},c.size=l.length→(∀ (j:Nat) (x:AV) (u:Value),l[j]? = some x→c[j]? = some u→VR w S m x u) → ∀ (j:Nat) (x:AV),l[j]? = some x → ∃ u,c[0+j]? = some u∧VR w S m x u:=by
    intro l c hl hp j x hx;have hj:j<c.size:=by rw [hl];exact (List.getElem?_eq_some_iff.1 hx).1
    exact ⟨c[j],by rw [Nat.zero_add];exact Array.getElem?_eq_getElem hj,hp j x _ hx (Array.getElem?_eq_getElem hj)⟩
  have hf:=eqFields_ok (cs:=cs) (ds:=ds) 9998 (P.fieldsOf t).toList 0 ks xs ys b hE.fs h (hcell hl hp) (hcell hl' hp');have he:(Op.equalIn 10000 t (.agg cs) (.agg ds)).run P w = .ok b w:=by
    rw [show (10000:Nat)=9999+1 from rfl,run_equalIn_struct w 9999 t cs ds hE.u hE.h]
    exact hf
  have hG:=run_eqGuard_agg (P:=P) w op t p q cs ds hE.g;unfold bopE at ho;split at ho
  · injection ho with ho;simp only [Prod.mk.injEq] at ho;obtain ⟨rfl,rfl⟩:=ho;exact ⟨_,rfl,by simp only [Sem.run_bind,hG,Result.andThen_ok,run_eql_struct w t cs ds,he]⟩
  · injection ho with ho;simp only [Prod.mk.injEq] at ho;obtain ⟨rfl,rfl⟩:=ho;exact ⟨_,rfl,by simp only [Sem.run_bind,hG,Result.andThen_ok,run_neq_struct w t cs ds,he]⟩
  · cases ho
theorem bop_ok (hT:TysOK P ty) {t:TypeId} {op:BinOp} {a b:AV} {va vb:Value} {x:AV} {vc:Prop} (ha:VR w S m a va) (hb:VR w S m b vb) (h:bop ty t op a b=some (x,vc)) (hvc:vc) (p q:Operand) :
    ∃ v,x = .lit v∧(do eqGuard op t p q va vb;binOp op t va vb:Sem Value).run P w = .ok v w:=by
  unfold bop at h;split at h
  · split at h
    · rename_i ks hks;split at h
      · rename_i b hb2;exact struct_eq_ok (hT.2 _ _ hks) hb2 ha hb h p q
      · cases h
    · cases h
  · obtain rfl:=ha.lit_inv;obtain rfl:=hb.lit_inv;rename_i k x1 k' y1;have hG:(eqGuard op t p q (.int k x1) (.int k' y1)).run P w = .ok () w:=by
      cases op <;> simp [eqGuard]
    split at h
    · injection h with h;simp only [Prod.mk.injEq] at h;obtain ⟨rfl,rfl⟩:=h;have h0:¬ y1<0:=by omega
      exact ⟨_,rfl,by simp [hG];simp [binOp,Op.shift,h0]⟩
    · injection h with h;simp only [Prod.mk.injEq] at h;obtain ⟨rfl,rfl⟩:=h;have h0:¬ y1<0:=by omega
      exact ⟨_,rfl,by simp [hG];simp [binOp,Op.shift,h0]⟩
    · rename_i hn1 hn2;split at h
      · rename_i hk;subst hk;injection h with h;cases hone:isOneW (ty t) k
        · rw [hone,cond_false] at h;obtain ⟨v,h1,h2⟩:=bopI_ok (P:=P) (w:=w) (op:=op) (k:=k) (x:=x1) (y:=y1) hn1 hn2 (by rw [h];exact hvc) t;refine ⟨v,?_,by simp [hG];exact h2⟩;rw [h] at h1;exact h1
        · rw [hone,cond_true] at h;obtain ⟨v,h1,h2⟩:=bopW_ok (P:=P) (w:=w) (op:=op) (k:=k) (x:=x1) (y:=y1) hn1 hn2 (by rw [h];exact hvc) t;refine ⟨v,?_,by simp [hG];exact h2⟩;rw [h] at h1;exact h1
      · cases h
  · obtain rfl:=ha.lit_inv;obtain rfl:=hb.lit_inv;rename_i p1 q1;split at h
    · rename_i z1 z2 z3 hty;injection h with h;simp only [Prod.mk.injEq] at h;obtain ⟨rfl,rfl⟩:=h;obtain ⟨i,d,z,_,hu,_,_,_,_,hk⟩:=(hT.1 _ _ hty).ok;simp only [KOK] at hk;subst hk;exact ⟨_,rfl,by simp only [Sem.run_bind,eqGuard];simp;exact run_bool_eql hu _ _⟩
    · rename_i z1 z2 z3 hty;injection h with h;simp only [Prod.mk.injEq] at h;obtain ⟨rfl,rfl⟩:=h;obtain ⟨i,d,z,_,hu,_,_,_,_,hk⟩:=(hT.1 _ _ hty).ok;simp only [KOK] at hk;subst hk;exact ⟨_,rfl,by simp only [Sem.run_bind,eqGuard];simp;exact run_bool_neq hu _ _⟩
    · cases h
  · obtain rfl:=ha.lit_inv;obtain rfl:=hb.lit_inv;rename_i s1 t1;simp only [Option.map_eq_some_iff,Prod.mk.injEq] at h;obtain ⟨y,hy,rfl,rfl⟩:=h;unfold bopS at hy;split at hy
    · injection hy with hy;exact ⟨_,hy.symm,by simp [eqGuard,binOp,Op.stringOp]⟩
    · injection hy with hy;exact ⟨_,hy.symm,by simp [eqGuard,binOp,Op.stringOp]⟩
    · cases hy
  · cases h
theorem pickA_ok {p:Bool} {a b:AV} {va vb:Value} (ha:p=true→VR w S m (stp a) va) (hb:p=false→VR w S m (stp b) vb):VR w S m (pickA p a b) (if p=true then va else vb):=by
  unfold pickA;cases p with
  | true =>
    have h:=ha rfl;simp only [if_true];split
    · rename_i e1 e2;rw [e1] at h;exact h
    · exact h
  | false =>
    have h:=hb rfl;simp only [Bool.false_eq_true,if_false];split
    · rename_i e1 e2;rw [e2] at h;exact h
    · exact h
theorem add_mid (b o j:Nat):(⟨b,o,none⟩:Addr).add j=⟨b,o+j,none⟩:=add_plain b o j
theorem VR.tup_inv {xs:List AV} {u:Value} (h:VR w S m (.tup xs) u):∃ cs,u = .tuple cs∧cs.size=xs.length ∧ ∀ (j:Nat) (x:AV) (u:Value),xs[j]? = some x→cs[j]? = some u→VR w S m x u:=by
  cases h with
  | tup hl h=>exact ⟨_,rfl,hl,h⟩
theorem fieldsB_at {fields:Array Field} {fs:List (Nat × Nat × Bool)} (h:fieldsB P fields=fs) {f:Nat} (hf:f<fs.length) :
    ∃ F,fields[f]? = some F∧fs[f]? = some (F.offset,fsz P F.type,rowB (P.underlying F.type)):=by
  subst h;simp only [fieldsB,List.length_map] at hf;have hf':f<fields.size:=by simpa using hf
  refine ⟨fields[f],Array.getElem?_eq_getElem hf',?_⟩;simp [fieldsB,hf']
theorem size_of_getD {t:TypeId} (h:fsz P t ≠ 0):(∃ i,P.info? t=some i∧i.size=fsz P t) ∧ ∃ d,P.underlying t=some d:=by
  unfold fsz at h ⊢;cases hu:P.underlying t with
  | none=>rw [hu] at h;simp at h
  | some d =>
    cases hi:P.info? t with
    | none=>rw [hi] at h;simp at h
    | some i=>exact ⟨⟨i,rfl,by simp⟩,d,rfl⟩
theorem run_fieldAt_ok {t:TypeId} {fields:Array Field} {F:Field} {f:Nat} {a:Addr} (hu:P.underlying t=some (.struct fields)) (hF:fields[f]? = some F) (hs:fsz P F.type ≠ 0) :
    (Instr.fieldAt t (.pointer (some a)) f).run P w = .ok (.pointer (some (a.add F.offset))) w:=by
  obtain ⟨⟨i,hi,hsz⟩,_⟩:=size_of_getD hs;have h0:i.size ≠ 0:=by omega
  simp [Instr.fieldAt,run_underlying hu,hF,Instr.sureAddr,fieldPlace,sizeOf,typeInfo,hi,h0]
theorem run_sizeOf_ok {t:TypeId} {ti:TI} (h:TyOK P t ti):(sizeOf t).run P w = .ok ti.size w:=by
  obtain ⟨i,d,z,hi,_,hs,_⟩:=h.ok;simp [sizeOf,typeInfo,hi,hs]
theorem und_slice {t e:TypeId} {s b:Nat} {z:List Value} (h:TyOK P t ⟨.slice e,s,b,z⟩):P.underlying t=some (.slice e):=by
  obtain ⟨i,d,z,_,hu,_,_,_,_,hk⟩:=h.ok;simp only [KOK] at hk;subst hk;exact hu
theorem und_array {t e n:TypeId} {s b:Nat} {z:List Value} (h:TyOK P t ⟨.array n e,s,b,z⟩):P.underlying t=some (.array n e):=by
  obtain ⟨i,d,z,_,hu,_,_,_,_,hk⟩:=h.ok;simp only [KOK] at hk;subst hk;exact hu
theorem und_struct {t:TypeId} {fs:List (Nat × Nat × Bool)} {s b:Nat} {z:List Value} (h:TyOK P t ⟨.struct fs,s,b,z⟩):∃ fields,P.underlying t=some (.struct fields)∧fieldsB P fields=fs:=by
  obtain ⟨i,d,z,_,hu,_,_,_,_,fields,rfl,hk⟩:=h.ok;exact ⟨fields,hu,hk⟩
theorem run_indexAt_slice {t e:TypeId} {te:TI} (ht:P.underlying t=some (.slice e)) (he:TyOK P e te) (a:Addr) (n c:Nat) (k:IntKind) (z:Int) (h0:0≤z) (h1:z<n) :
    (Instr.indexAt t (.slice (some a) n c) (.int k z)).run P w = .ok (.pointer (some (a.add (z.toNat*te.size)))) w:=by
  simp [Instr.indexAt,asIntOf,run_underlying ht,h0,h1,run_sizeOf_ok he]
theorem run_indexAt_array {t e:TypeId} {te:TI} {n:Nat} (ht:P.underlying t=some (.array n e)) (he:TyOK P e te) (a:Addr) (k:IntKind) (z:Int) (h0:0≤z) (h1:z<n) :
    (Instr.indexAt t (.pointer (some a)) (.int k z)).run P w = .ok (.pointer (some (a.add (z.toNat*te.size)))) w:=by
  simp [Instr.indexAt,asIntOf,run_underlying ht,Instr.sureAddr,h0,h1,run_sizeOf_ok he]
theorem idx_inv {x:AV} {z:Int} {v:Value} (hv:VR w S m x v) (h:idx x=some z):∃ k,v = .int k z:=by
  unfold idx at h;split at h
  · injection h with h;subst h;obtain rfl:=hv.lit_inv;exact ⟨_,rfl⟩
  · cases h
theorem Lies.at_ {A:Option Addr} {k:Nat} {us:Nat→Value} (h:Lies w S A k us) (hk:0<k):∃ b off,A=some ⟨b,off,none⟩ ∧ ∀ i,i<k→S b (off+i)∧w.cell? ⟨b,off+i,none⟩=some (us i):=by
  rcases h with h | h
  · omega
  · exact h
theorem ep_by {bs:List UInt8} {u:Value} (h:VR w S m (.by_ bs) u) {i:Nat} (hi:i<bs.length) :
    ∃ b off c,u = .slice (some ⟨b,off,none⟩) bs.length c∧VR w S m (.ep (cAt (.by_ bs) i) 0) (.pointer (some ⟨b,off+i,none⟩)):=by
  cases h with
  | by_ hn hc hm h0 hA =>
    obtain ⟨b,off,rfl,h1⟩:=hA.at_ (by omega);subst hn;refine ⟨b,off,_,rfl,?_⟩;have:=VR.ep (w:=w) (S:=S) (m:=m) (x:=cAt (.by_ bs) i) (off:=0) (b:=b) (o:=off+i) (fun _=>.int .u8 ((bs.getD i 0).toNat:Int)) (fun j hj=>?_) (fun j y hy=>?_)
    · simpa using this
    · simp only [cAt,bA,AV.cl,List.length_cons,List.length_nil] at hj;obtain rfl:j=0:=by omega
      exact h1 i hi
    · simp only [cAt,bA,AV.cl] at hy;match j,hy with
      | 0,hy =>
        simp at hy;subst hy;exact .lit _
theorem ep_li {es:Nat} {xs:List AV} {u:Value} (h:VR w S m (.li es xs) u) {i:Nat} (hi:i<xs.length) (hes:es ≠ 0) :
    ∃ b off c,u = .slice (some ⟨b,off,none⟩) xs.length c∧VR w S m (.ep (cAt (.li es xs) i) 0) (.pointer (some ⟨b,off+i*es,none⟩)):=by
  cases h with
  | li us hn hc hm h0 hes0 he hA h =>
    subst hn;have hpos:0<xs.length*es:=Nat.mul_pos (by omega) (by omega);obtain ⟨b,off,rfl,h1⟩:=hA.at_ hpos;refine ⟨b,off,_,rfl,?_⟩;have hx:xs[i]? = some (cAt (.li es xs) i):=getD_of_lt hi;have hl:(cAt (.li es xs) i).cl.length=es:=he _ (List.mem_of_getElem? hx);have:=VR.ep (w:=w) (S:=S) (m:=m) (x:=cAt (.li es xs) i) (off:=0) (b:=b) (o:=off+i*es) (fun j=>us (i*es+j)) (fun j hj=>?_) (fun j y hy=>h i j _ y hx hy)
    · simpa using this
    · rw [hl] at hj;have:=h1 (i*es+j) (row_mul hi hj);rw [Nat.add_assoc];exact this
end
end Go.TravelAbs
namespace Go.TravelAbs
open Go.RowKit Go.TravelBase
section
variable {P:Program} {ty:Ty} {w:World} {S:CSet} {m:RMap}
theorem VR.sl_inv {k es i n:Nat} {u:Value} (h:VR w S m (.sl k es i n) u) :
    ∃ r A,m k=some r∧r.es=es∧i+n≤r.cap∧r.cap≤maxLen∧(i<r.cap→A=some ⟨r.g,i*r.es,none⟩)∧(A=none→r.cap-i=0)∧u = .slice A n (r.cap-i):=by
  cases h with
  | sl h1 h2 h3 h4 h5 h6=>exact ⟨_,_,h1,h2,h3,h4,h5,h6,rfl⟩
theorem VR.ptr_inv {k i off:Nat} {u:Value} (h:VR w S m (.ptr k i off) u):∃ r,m k=some r∧u = .pointer (some ⟨r.g,i*r.es+off,none⟩):=by
  cases h with
  | ptr h=>exact ⟨_,h,rfl⟩
theorem VR.ep_shift {x:AV} {off:Nat} {u:Value} (h:VR w S m (.ep x off) u) (d:Nat):∃ a,u = .pointer (some a)∧VR w S m (.ep x (off+d)) (.pointer (some (a.add d))):=by
  cases h with
  | ep us hA h =>
    refine ⟨_,rfl,?_⟩;rw [add_mid,Nat.add_assoc];exact .ep us hA h
theorem VR.ptr_shift {k i off:Nat} {u:Value} (h:VR w S m (.ptr k i off) u) (d:Nat):∃ a,u = .pointer (some a)∧VR w S m (.ptr k i (off+d)) (.pointer (some (a.add d))):=by
  cases h with
  | ptr h =>
    refine ⟨_,rfl,?_⟩;rw [add_mid,Nat.add_assoc];exact .ptr h
theorem bound_lo {g:Operand→AV} {ρ:Operand→Value} (hg:∀ y,VR w S m (g y) (ρ y)) {lo:Option Operand} {l:Int} (hl:(match lo with | none=>some 0 | some l=>idx (stp (g l)))=some l) (hc:∀ y∈lo,cnd (g y)) :
    lo=none∧l=0 ∨ ∃ y k,lo=some y∧ρ y = .int k l:=by
  cases lo with
  | none=>left;exact ⟨rfl,by simpa using hl.symm⟩
  | some y =>
    right;obtain ⟨k,hk⟩:=idx_inv ((hg y).strip (hc y rfl)) hl;exact ⟨y,k,rfl,hk⟩
theorem bound_hi {g:Operand→AV} {ρ:Operand→Value} (hg:∀ y,VR w S m (g y) (ρ y)) {hi:Option Operand} {h:Option Int} (hh:(match hi with | none=>some (none:Option Int) | some h=>(idx (stp (g h))).map some)=some h) (hc:∀ y∈hi,cnd (g y)) :
    hi=none∧h=none ∨ ∃ y k z,hi=some y∧ρ y = .int k z∧h=some z:=by
  cases hi with
  | none=>left;exact ⟨rfl,by simpa using hh.symm⟩
  | some y =>
    right;obtain ⟨z,h1,h2⟩:=Option.map_eq_some_iff.1 hh;obtain ⟨k,hk⟩:=idx_inv ((hg y).strip (hc y rfl)) h1;exact ⟨y,k,z,rfl,hk,h2.symm⟩
theorem run_slice_ok {t e:TypeId} {te:TI} (ht:P.underlying t=some (.slice e)) (he:TyOK P e te) (A:Option Addr) (n c:Nat) (lo hi:Option Value) (l h:Int)
    (hlo:lo=none∧l=0 ∨ ∃ k,lo=some (.int k l)) (hhi:hi=none∧h=n ∨ ∃ k,hi=some (.int k h)) (h0:0≤l) (h1:l≤h) (h2:h≤n) (hc:n≤c) :
    (Instr.sliceAt t (.slice A n c) lo hi none).run P w = .ok (.slice (if c=l.toNat then A else A.map (·.add (l.toNat*te.size))) (h.toNat-l.toNat) (c-l.toNat)) w:=by
  have e1:(h.toNat:Int)=h:=Int.toNat_of_nonneg (by omega);have e2:(l.toNat:Int)=l:=Int.toNat_of_nonneg (by omega);have b1:h≤(c:Int):=by omega
  have b2:0≤h:=by omega
  rcases hlo with ⟨rfl,rfl⟩ | ⟨k1,rfl⟩ <;> rcases hhi with ⟨rfl,rfl⟩ | ⟨k2,rfl⟩ <;>
    simp [Instr.sliceAt,Instr.slice,run_underlying ht,Instr.sliceBounds,Instr.sliceBound,asIntOf,e1,e2,b1,b2,h0,h1,h2,run_sizeOf_ok he]
theorem part_cell {t:TypeId} {cs:Array Value} {off:Nat} {v:Value} (hr:rowB (P.underlying t)=false) (hu:∃ d,P.underlying t=some d) (hv:cs[off]? = some v):(part t cs off).run P w = .ok v w:=by
  obtain ⟨d,hd⟩:=hu;have:(isAgg t).run P w = .ok false w:=by
    rw [hd] at hr;unfold isAgg;rw [Sem.run_bind,run_underlying hd w];cases d <;> simp_all [rowB]
  simp [part,this,hv]
theorem isAgg_true {t:TypeId} (hr:rowB (P.underlying t)=true):(isAgg t).run P w = .ok true w:=by
  cases hd:P.underlying t with
  | none=>rw [hd] at hr;cases hr
  | some d =>
    rw [hd] at hr;unfold isAgg;rw [Sem.run_bind,run_underlying hd w];cases d <;> simp_all [rowB]
theorem part_agg {t:TypeId} {cs:Array Value} {off:Nat} (hr:rowB (P.underlying t)=true) (hs:fsz P t ≠ 0):(part t cs off).run P w = .ok (.agg (cs.extract off (off+fsz P t))) w:=by
  obtain ⟨⟨i,h1,h2⟩,_⟩:=size_of_getD hs;simp [part,isAgg_true hr,sizeOf,typeInfo,h1,← h2]
theorem VR.getD {xs:List AV} {cs:Array Value} (hl:cs.size=xs.length) (h:∀ (j:Nat) (x:AV) (u:Value),xs[j]? = some x→cs[j]? = some u→VR w S m x u) {o:Nat} (ho:o<xs.length) :
    ∃ u,cs[o]? = some u∧VR w S m (xs.getD o .any) u:=by
  have h1:o<cs.size:=by omega
  exact ⟨cs[o],Array.getElem?_eq_getElem h1,h o _ _ (getD_of_lt ho) (Array.getElem?_eq_getElem h1)⟩
theorem VR.range {xs:List AV} {cs:Array Value} (hl:cs.size=xs.length) (h:∀ (j:Nat) (x:AV) (u:Value),xs[j]? = some x→cs[j]? = some u→VR w S m x u) {o s:Nat} (ho:o+s≤xs.length) :
    VR w S m (.agg ((xs.drop o).take s)) (.agg (cs.extract o (o+s))):=by
  refine .agg (by simp;omega) fun j x u hx hu=>?_;rw [Array.getElem?_extract] at hu;rw [List.getElem?_take] at hx;split at hx
  · rename_i hj;rw [List.getElem?_drop] at hx;split at hu
    · exact h _ _ _ hx hu
    · cases hu
  · cases hx
theorem VR.caps {g:Operand→AV} {ρ:Operand→Value} (hg:∀ y,VR w S m (g y) (ρ y)) {l:Array Operand} (hc:∀ x∈l.toList,cnd (g x)) :
    (l.map ρ).size=(l.toList.map fun x=>stp (g x)).length ∧ ∀ (j:Nat) (x:AV) (u:Value),(l.toList.map fun x=>stp (g x))[j]? = some x→(l.map ρ)[j]? = some u→VR w S m x u:=by
  refine ⟨by simp,fun j x u hx hu=>?_⟩;rw [List.getElem?_map] at hx;rw [Array.getElem?_map] at hu;obtain ⟨y,h1,rfl⟩:=Option.map_eq_some_iff.1 hx;obtain ⟨y',h2,rfl⟩:=Option.map_eq_some_iff.1 hu;have:y=y':=by
    rw [Array.getElem?_toList] at h1;rw [h1] at h2;injection h2
  subst this;exact (hg y).strip (hc y (List.mem_of_getElem? h1))
theorem row_of {t:TypeId} {ti:TI} (h:TyOK P t ti):rowB (P.underlying t)=ti.kind.row ∧ ∃ d,P.underlying t=some d:=by
  obtain ⟨i,d,z,_,hu,_,_,_,_,hk⟩:=h.ok;refine ⟨?_,d,hu⟩;rw [hu];cases hti:ti.kind <;> rw [hti] at hk <;> simp only [KOK] at hk
  case one=>rw [hk];rfl
  case struct fs=>obtain ⟨_,rfl,_⟩:=hk;rfl
  all_goals subst hk;rfl
theorem str_get {s:ByteArray} {i:Nat} (hi:i<s.size):s[i]? = some (s.data.toList.getD i 0):=by
  have h:i<s.data.toList.length:=by simpa using hi
  have e:s[i]? = some s[i]:=by
    show (if h:i<s.size then some s[i] else none)=_;rw [dif_pos hi]
  rw [e];simp [List.getD,List.getElem?_eq_getElem h];rfl
theorem Lies.drop {A:Option Addr} {n c es i k:Nat} {us:Nat→Value} (h:Lies w S A (n*es) us) (hi:i+k≤n) (hc:n≤c) :
    Lies w S (if c=i then A else A.map (·.add (i*es))) (k*es) (fun j=>us (i*es+j)):=by
  rcases Nat.eq_zero_or_pos (k*es) with hk | hk
  · exact .inl hk
  · have hle:i*es+k*es≤n*es:=by rw [← Nat.add_mul];exact Nat.mul_le_mul_right es hi
    obtain ⟨b,off,rfl,h1⟩:=h.at_ (by omega);have hk0:0<k:=Nat.pos_of_mul_pos_right hk;rw [if_neg (by omega)];refine .inr ⟨b,off+i*es,by simp [add_mid],fun j hj=>?_⟩;rw [Nat.add_assoc];exact h1 _ (by omega)
theorem addr_none {A:Option Addr} {c l s:Nat} (h0:A=none→c=0):(if c=l then A else A.map (·.add (l*s)))=none→c-l=0:=by
  intro h;split at h
  · omega
  · have:=h0 (by simpa using h);omega
theorem VR.by_sub {bs:List UInt8} {u:Value} (hv:VR w S m (.by_ bs) u):∃ A n c,u = .slice A n c∧bs.length=n∧n≤c ∧
    ∀ l h,l≤h→h≤n→VR w S m (.by_ ((bs.take h).drop l)) (.slice (if c=l then A else A.map (·.add (l*1))) (h-l) (c-l)):=by
  cases hv with
  | by_ hn hc hm h0 hA =>
    rename_i A n c;refine ⟨A,n,c,rfl,hn,hc,fun l h h1 h2=>?_⟩;rw [← Nat.mul_one n] at hA;have hl:=hA.drop (c:=c) (i:=l) (k:=h-l) (by omega) hc;rw [Nat.mul_one (h-l)] at hl;refine .by_ (by simp;omega) (by omega) (by omega) (addr_none h0) ?_;rcases hl with hl | ⟨b,off,e,hl⟩
    · exact .inl hl
    · refine .inr ⟨b,off,e,fun i hi=>⟨(hl i hi).1,(hl i hi).2.trans ?_⟩⟩;simp only [Nat.mul_one];congr 3
      simp only [List.getD];rw [List.getElem?_drop,List.getElem?_take,if_pos (by omega)]
theorem VR.li_sub {es:Nat} {xs:List AV} {u:Value} (hv:VR w S m (.li es xs) u):∃ A n c,u = .slice A n c∧xs.length=n∧n≤c ∧
    ∀ l h,l≤h→h≤n→VR w S m (.li es ((xs.take h).drop l)) (.slice (if c=l then A else A.map (·.add (l*es))) (h-l) (c-l)):=by
  cases hv with
  | li us hn hc hm h0 hes0 he hA hh =>
    rename_i A n c;refine ⟨A,n,c,rfl,hn,hc,fun l h h1 h2=>?_⟩;have hl:=hA.drop (c:=c) (i:=l) (k:=h-l) (by omega) hc;refine .li _ (by simp;omega) (by omega) (by omega) (addr_none h0) hes0 (fun x hx=>he x (List.mem_of_mem_take (List.mem_of_mem_drop hx))) hl ?_;intro i j x y hx hy;have hx2:xs[l+i]? = some x:=by
      rw [List.getElem?_drop,List.getElem?_take] at hx;split at hx
      · exact hx
      · cases hx
    have:=hh (l+i) j x y hx2 hy;rw [Nat.add_mul,Nat.add_assoc] at this;exact this
theorem VR.sl_sub {k es i n:Nat} {u:Value} (hv:VR w S m (.sl k es i n) u):∃ A c,u = .slice A n c∧n≤c ∧
    ∀ l h,l≤h→h≤n→VR w S m (.sl k es (i+l) (h-l)) (.slice (if c=l then A else A.map (·.add (l*es))) (h-l) (c-l)):=by
  obtain ⟨r,A,h1,h2,h3,h4,h5,h6,rfl⟩:=hv.sl_inv;refine ⟨A,_,rfl,by omega,fun l h h7 h8=>?_⟩;rw [show r.cap-i-l=r.cap-(i+l) by omega];refine .sl h1 h2 (by omega) h4 (fun hlt=>?_) (fun e=>?_)
  · rw [h5 (by omega),if_neg (by omega)];subst h2;simp [add_mid,Nat.add_mul]
  · have:=addr_none (A:=A) (c:=r.cap-i) h6 e;omega
theorem VR.rd {bs:List UInt8} {v:Value} (h:VR w S m (.by_ bs) v):∃ A c,v = .slice A bs.length c∧Rd w A bs.length c (bvs bs):=by
  cases h with
  | by_ hn hc hm h0 hA =>
    subst hn;refine ⟨_,_,rfl,by simp [bvs],hc,hm,h0,fun hpos=>?_⟩;rcases hA with h1 | ⟨b,off,rfl,h1⟩
    · omega
    · refine ⟨b,off,rfl,World.block_lt_of_cell? w _ (h1 0 hpos).2,fun j u hu=>?_⟩;have hj:j<bs.length:=by have:=(List.getElem?_eq_some_iff.1 hu).1;simpa [bvs] using this
      rw [(h1 j hj).2];simp only [bvs,List.getElem?_map,List.getElem?_eq_getElem hj,Option.map_some,Option.some.injEq] at hu;subst hu;simp [bv,List.getD,List.getElem?_eq_getElem hj]
theorem evA_ok (hT:TysOK P ty) {g:Operand→AV} {ρ:Operand→Value} (hg:∀ y,VR w S m (g y) (ρ y)) {o:Oper} {x:AV} {vc:Prop} (h:evA ty g o.op=some (x,vc)) (hvc:vc) :
    ∃ v,(execOp ρ o).run P w = .ok (.value v) w∧VR w S m x v:=by
  unfold execOp;unfold evA at h;split at h
  · injection h with h;simp only [Prod.mk.injEq] at h;obtain ⟨rfl,rfl⟩:=h;rename_i y hop;rw [hop];exact ⟨_,rfl,hg y⟩
  · injection h with h;simp only [Prod.mk.injEq] at h;obtain ⟨rfl,rfl⟩:=h;rename_i y hop;rw [hop];exact ⟨_,rfl,hg y⟩
  · rename_i y hop;rw [hop];split at h
    · rename_i k i off hs;injection h with h;simp only [Prod.mk.injEq] at h;obtain ⟨rfl,rfl⟩:=h;have hy:=(hg y).strip hvc;rw [hs] at hy;generalize hu:ρ y=u at hy;cases hy with
      | ptr h1=>exact ⟨_,by simp [hu],.ptr h1⟩
    · rename_i z off hs;injection h with h;simp only [Prod.mk.injEq] at h;obtain ⟨rfl,rfl⟩:=h;have hy:=(hg y).strip hvc;rw [hs] at hy;generalize hu:ρ y=u at hy;cases hy with
      | ep us h1 h2=>exact ⟨_,by simp [hu],.ep us h1 h2⟩
    · cases h
  · rename_i c a b hop;rw [hop];split at h
    · rename_i p hp;injection h with h;simp only [Prod.mk.injEq] at h;obtain ⟨rfl,rfl⟩:=h;obtain ⟨c1,c2,c3⟩:=hvc;have hc:=(hg c).strip c1;rw [hp] at hc;have hc:=hc.lit_inv;refine ⟨_,?_,pickA_ok (va:=ρ a) (vb:=ρ b) (p:=p) (fun e=>(hg a).strip (c2 e)) (fun e=>(hg b).strip (c3 e))⟩;simp [hc,asBool]
    · cases h
  · rename_i op t y z t2 hop;rw [hop];split at h
    · rename_i v vc' hb;injection h with h;simp only [Prod.mk.injEq] at h;obtain ⟨rfl,rfl⟩:=h;obtain ⟨c1,c2,c3⟩:=hvc;obtain ⟨u,rfl,hu⟩:=bop_ok hT ((hg y).strip c1) ((hg z).strip c2) hb c3 y z;refine ⟨u,?_,.lit _⟩;simp only [Sem.run_bind] at hu ⊢;rw [hu];rfl
    · cases h
  · rename_i op t y hop;rw [hop];split at h
    · rename_i v vc' hb;injection h with h;simp only [Prod.mk.injEq] at h;obtain ⟨rfl,rfl⟩:=h;obtain ⟨c1,c3⟩:=hvc;have hy:=(hg y).strip c1;unfold uop at hb;split at hb
      · rename_i hs;injection hb with hb;simp only [Prod.mk.injEq] at hb;obtain ⟨rfl,rfl⟩:=hb;rw [hs] at hy;have e:=hy.lit_inv;exact ⟨_,by simp [Op.unary,e],.lit _⟩
      · rename_i hs;injection hb with hb;simp only [Prod.mk.injEq] at hb;obtain ⟨rfl,rfl⟩:=hb;rw [hs] at hy;have e:=hy.lit_inv;refine ⟨_,?_,.lit _⟩;have h2:inR _ _:=c3;unfold inR at h2;simp only [Int.zero_sub] at h2;simp [Op.unary,Op.intArith,e,h2]
      · rename_i hs;injection hb with hb;simp only [Prod.mk.injEq] at hb;obtain ⟨rfl,rfl⟩:=hb;rw [hs] at hy;have e:=hy.lit_inv;exact ⟨_,by simp [Op.unary,Op.intBits,bits,e],.lit _⟩
      · cases hb
    · cases h
  · rename_i s dst y hop;rw [hop];split at h
    · rename_i q1 q2 tsrc k z1 z2 z3 kk n hsrc hty hs;injection h with h;simp only [Prod.mk.injEq] at h;obtain ⟨rfl,rfl⟩:=h;have hy:=(hg y).strip hvc;rw [hs] at hy;have e:=hy.lit_inv;obtain ⟨i,d,z,_,hu,_,_,_,_,hk⟩:=(hT.1 _ _ hty).ok;obtain ⟨_,d',_,_,hu',_⟩:=(hT.1 _ _ hsrc).ok;simp only [KOK] at hk;subst hk;refine ⟨_,?_,.lit _⟩;simp [convert,run_underlying hu,run_underlying hu',e,Conv.intToInt]
    · rename_i q1 q2 e z1 z2 z3 z4 z5 z6 bs hsrc hty hs;split at h
      · rename_i q3 z7 z8 z9 hte;injection h with h;simp only [Prod.mk.injEq] at h;obtain ⟨rfl,rfl⟩:=h;have hy:=(hg y).strip hvc;rw [hs] at hy;obtain ⟨_,d,_,_,hu,_,_,_,_,hk⟩:=(hT.1 _ _ hty).ok;obtain ⟨_,d',_,_,hu',_,_,_,_,hk'⟩:=(hT.1 _ _ hsrc).ok;obtain ⟨_,d2,_,_,hu2,_,_,_,_,hk2⟩:=(hT.1 _ _ hte).ok;simp only [KOK] at hk hk' hk2;subst hk hk' hk2;obtain ⟨A,c,e1,hr⟩:=VR.rd hy;refine ⟨_,?_,.lit _⟩;have h1:=conv_bytes (P:=P) w s dst e hu' hu2 hu hr;simp [e1,h1]
      · cases h
    · cases h
  · rename_i t i hop;rw [hop];split at h
    · rename_i q1 xs hs;injection h with h;simp only [Prod.mk.injEq] at h;obtain ⟨rfl,rfl⟩:=h;have hy:=(hg t).strip hvc.1;rw [hs] at hy;obtain ⟨cs,e,hl,hp⟩:=hy.tup_inv;obtain ⟨u,h1,h2⟩:=VR.getD hl hp hvc.2;exact ⟨u,by simp [Instr.extract,e,h1],h2⟩
    · cases h
  · rename_i f first caps hop
    rw [hop];split at h
    · rename_i hf;injection h with h;simp only [Prod.mk.injEq] at h;obtain ⟨rfl,rfl⟩:=h;have:first = #[]:=by simpa using hf
      subst this;obtain ⟨h1,h2⟩:=VR.caps hg hvc;exact ⟨_,by simp [Instr.makeFunc],.clo h1 h2⟩
    · cases h
  · rename_i t y f hop;rw [hop];split at h
    · rename_i q1 q2 fs q3 q4 q5 k i off hty hs;injection h with h;simp only [Prod.mk.injEq] at h;obtain ⟨rfl,rfl⟩:=h;have hy:=(hg y).strip hvc.1;rw [hs] at hy;obtain ⟨fields,hu,hfs⟩:=und_struct (hT.1 _ _ hty);obtain ⟨F,h1,h2⟩:=fieldsB_at hfs hvc.2.1;have h3:fs.getD f (0,0,false)=(F.offset,fsz P F.type,rowB (P.underlying F.type)):=by simp [List.getD,h2]
      have h4:=hvc.2.2;rw [h3] at h4 ⊢;obtain ⟨a,e,hv⟩:=hy.ptr_shift F.offset;exact ⟨_,by simp [e,run_fieldAt_ok hu h1 h4],hv⟩
    · rename_i q1 q2 fs q3 q4 q5 z off hty hs;injection h with h;simp only [Prod.mk.injEq] at h;obtain ⟨rfl,rfl⟩:=h;have hy:=(hg y).strip hvc.1;rw [hs] at hy;obtain ⟨fields,hu,hfs⟩:=und_struct (hT.1 _ _ hty);obtain ⟨F,h1,h2⟩:=fieldsB_at hfs hvc.2.1;have h3:fs.getD f (0,0,false)=(F.offset,fsz P F.type,rowB (P.underlying F.type)):=by simp [List.getD,h2]
      have h4:=hvc.2.2;rw [h3] at h4 ⊢;obtain ⟨a,e,hv⟩:=hy.ep_shift F.offset;exact ⟨_,by simp [e,run_fieldAt_ok hu h1 h4],hv⟩
    · cases h
  · rename_i t y f hop;rw [hop];split at h
    · rename_i q1 q2 fs q3 q4 q5 xs hty hs;split at h
      · rename_i q6 o s hf;injection h with h;simp only [Prod.mk.injEq] at h;obtain ⟨rfl,rfl⟩:=h;have hy:=(hg y).strip hvc.1;rw [hs] at hy;obtain ⟨cs,e,hl,hp⟩:=hy.agg_inv;obtain ⟨fields,hu,hfs⟩:=und_struct (hT.1 _ _ hty);obtain ⟨F,h1,h2⟩:=fieldsB_at hfs (List.getElem?_eq_some_iff.1 hf).1;rw [hf] at h2;simp only [Option.some.injEq,Prod.mk.injEq] at h2;obtain ⟨rfl,rfl,h3⟩:=h2;exact ⟨_,by simp [Instr.field,run_underlying hu,h1,e,asAgg,part_agg h3.symm hvc.2.1],VR.range hl hp hvc.2.2⟩
      · rename_i q6 o s hf;injection h with h;simp only [Prod.mk.injEq] at h;obtain ⟨rfl,rfl⟩:=h;have hy:=(hg y).strip hvc.1;rw [hs] at hy;obtain ⟨cs,e,hl,hp⟩:=hy.agg_inv;obtain ⟨fields,hu,hfs⟩:=und_struct (hT.1 _ _ hty);obtain ⟨F,h1,h2⟩:=fieldsB_at hfs (List.getElem?_eq_some_iff.1 hf).1;rw [hf] at h2;simp only [Option.some.injEq,Prod.mk.injEq] at h2;obtain ⟨rfl,rfl,h3⟩:=h2;obtain ⟨u,h4,h5⟩:=VR.getD hl hp hvc.2.2;exact ⟨u,by simp [Instr.field,run_underlying hu,h1,e,asAgg,part_cell h3.symm (size_of_getD hvc.2.1).2 h4],h5⟩
      · cases h
    · cases h
  · rename_i t y ix hop;rw [hop];split at h
    · rename_i q1 q2 q3 e q4 q5 q6 bs z hty hs hz;split at h
      · rename_i te hte;injection h with h;simp only [Prod.mk.injEq] at h;obtain ⟨rfl,rfl⟩:=h;obtain ⟨c1,c2,c3,c4,c5⟩:=hvc;have hy:=(hg y).strip c1;rw [hs] at hy;obtain ⟨k,ek⟩:=idx_inv ((hg ix).strip c2) hz;obtain ⟨b,off,c,e1,hv⟩:=ep_by hy (i:=z.toNat) (by omega);refine ⟨_,?_,hv⟩;have:=run_indexAt_slice (P:=P) (w:=w) (und_slice (hT.1 _ _ hty)) (hT.1 _ _ hte) ⟨b,off,none⟩ bs.length c k z c3 c4;rw [c5,Nat.mul_one,add_mid] at this;simp [e1,ek,this]
      · cases h
    · rename_i q1 q2 q3 e q4 q5 q6 es xs z hty hs hz;split at h
      · rename_i te hte;injection h with h;simp only [Prod.mk.injEq] at h;obtain ⟨rfl,rfl⟩:=h;obtain ⟨c1,c2,c3,c4,c5,c6⟩:=hvc;have hy:=(hg y).strip c1;rw [hs] at hy;obtain ⟨k,ek⟩:=idx_inv ((hg ix).strip c2) hz;obtain ⟨b,off,c,e1,hv⟩:=ep_li hy (i:=z.toNat) (by omega) c6;refine ⟨_,?_,hv⟩;have:=run_indexAt_slice (P:=P) (w:=w) (und_slice (hT.1 _ _ hty)) (hT.1 _ _ hte) ⟨b,off,none⟩ xs.length c k z c3 c4;rw [c5,add_mid] at this;simp [e1,ek,this]
      · cases h
    · rename_i q1 q2 q3 e q4 q5 q6 kk es j n z hty hs hz;split at h
      · rename_i te hte;injection h with h;simp only [Prod.mk.injEq] at h;obtain ⟨rfl,rfl⟩:=h;obtain ⟨c1,c2,c3,c4,c5⟩:=hvc;have hy:=(hg y).strip c1;rw [hs] at hy;obtain ⟨k,ek⟩:=idx_inv ((hg ix).strip c2) hz;obtain ⟨r,A,hm,hes,hi,hcap,hA,_,e1⟩:=hy.sl_inv;have hA:=hA (by omega);subst hA;have:=run_indexAt_slice (P:=P) (w:=w) (und_slice (hT.1 _ _ hty)) (hT.1 _ _ hte) ⟨r.g,j*r.es,none⟩ n (r.cap-j) k z c3 c4;rw [c5,← hes,add_mid,← Nat.add_mul] at this;refine ⟨_,by simp [e1,ek,this];rfl,?_⟩;exact .ptr (i:=j+z.toNat) (off:=0) hm
      · cases h
    · rename_i q1 q2 q3 n e q4 q5 q6 kk j off z hty hs hz;split at h
      · rename_i te hte;injection h with h;simp only [Prod.mk.injEq] at h;obtain ⟨rfl,rfl⟩:=h;obtain ⟨c1,c2,c3,c4⟩:=hvc;have hy:=(hg y).strip c1;rw [hs] at hy;obtain ⟨k,ek⟩:=idx_inv ((hg ix).strip c2) hz;obtain ⟨a,e1,hv⟩:=hy.ptr_shift (z.toNat*te.size);have:=run_indexAt_array (P:=P) (w:=w) (und_array (hT.1 _ _ hty)) (hT.1 _ _ hte) a k z c3 c4;exact ⟨_,by simp [e1,ek,this],hv⟩
      · cases h
    · rename_i q1 q2 q3 n e q4 q5 q6 kk off z hty hs hz;split at h
      · rename_i te hte;injection h with h;simp only [Prod.mk.injEq] at h;obtain ⟨rfl,rfl⟩:=h;obtain ⟨c1,c2,c3,c4⟩:=hvc;have hy:=(hg y).strip c1;rw [hs] at hy;obtain ⟨k,ek⟩:=idx_inv ((hg ix).strip c2) hz;obtain ⟨a,e1,hv⟩:=hy.ep_shift (z.toNat*te.size);have:=run_indexAt_array (P:=P) (w:=w) (und_array (hT.1 _ _ hty)) (hT.1 _ _ hte) a k z c3 c4;exact ⟨_,by simp [e1,ek,this],hv⟩
      · cases h
    · split at h
      · injection h with h;simp only [Prod.mk.injEq] at h;obtain ⟨rfl,rfl⟩:=h;exact hvc.elim
      · cases h
    · cases h
  · rename_i t y ix hop;rw [hop];split at h
    · rename_i q1 q2 q3 n e q4 q5 q6 xs z hty hs hz;split at h
      · rename_i te hte;split at h
        · cases h
        · rename_i hrow;injection h with h;simp only [Prod.mk.injEq] at h;obtain ⟨rfl,rfl⟩:=h;obtain ⟨c1,c2,c3,c4,c5⟩:=hvc;have hy:=(hg y).strip c1;rw [hs] at hy;obtain ⟨k,ek⟩:=idx_inv ((hg ix).strip c2) hz;obtain ⟨cs,e1,hl,hp⟩:=hy.agg_inv;obtain ⟨u,h4,h5⟩:=VR.getD hl hp c5;obtain ⟨r1,r2⟩:=row_of (hT.1 _ _ hte);refine ⟨u,?_,h5⟩;simp [Instr.index,e1,ek,asIntOf,run_underlying (und_array (hT.1 _ _ hty)),c3,c4,run_sizeOf_ok (hT.1 _ _ hte),part_cell (r1.trans (by simpa using hrow)) r2 h4]
      · cases h
    · rename_i q1 q2 q3 q4 q5 q6 s z hty hs hz;injection h with h;simp only [Prod.mk.injEq] at h;obtain ⟨rfl,rfl⟩:=h;obtain ⟨c1,c2,c3,c4⟩:=hvc;have hy:=(hg y).strip c1;rw [hs] at hy;have e1:=hy.lit_inv;obtain ⟨k,ek⟩:=idx_inv ((hg ix).strip c2) hz;obtain ⟨i,d,z',_,hu,_,_,_,_,hk⟩:=(hT.1 _ _ hty).ok;simp only [KOK] at hk;subst hk;refine ⟨_,?_,.lit _⟩;simp [Instr.index,e1,ek,asIntOf,run_underlying hu,c3,str_get (s:=s) (i:=z.toNat) (by omega)]
    · cases h
  · rename_i t y lo hi mx hop;rw [hop];split at h
    · rename_i q1 q2 e q3 q4 q5 hty;split at h
      · cases h
      · skip
        split at h
        · rename_i bs l hh hs hl hhi;split at h
          · rename_i te hte;injection h with h;simp only [Prod.mk.injEq] at h;obtain ⟨rfl,rfl⟩:=h;obtain ⟨c0,c1,c2,c3,c4,c5,c6⟩:=hvc;have hy:=(hg y).strip c1;rw [hs] at hy;obtain ⟨A,n,c,e1,hn,hnc,hv⟩:=hy.by_sub;have hlo:=bound_lo hg hl c2;have hhi':=bound_hi hg hhi c3;have b1:0≤hh.getD bs.length:=by omega
            have hb:=hv l.toNat (hh.getD bs.length).toNat (by omega) (by omega);refine ⟨_,?_,hb⟩;have hrun:=run_slice_ok (P:=P) (w:=w) (und_slice (hT.1 _ _ hty)) (hT.1 _ _ hte) A n c (lo.map ρ) (hi.map ρ) l (hh.getD bs.length) ?_ ?_ c4 c5 (by omega) hnc
            · rw [c0] at hrun;simp [e1,hrun]
            · rcases hlo with ⟨h1,h2⟩ | ⟨z,k,h1,h2⟩
              · exact .inl ⟨by simp [h1],h2⟩
              · exact .inr ⟨k,by simp [h1,h2]⟩
            · rcases hhi' with ⟨h1,h2⟩ | ⟨z,k,zz,h1,h2,h3⟩
              · exact .inl ⟨by simp [h1],by simp [h2,hn]⟩
              · exact .inr ⟨k,by simp [h1,h2,h3]⟩
          · cases h
        · rename_i es xs l hh hs hl hhi;split at h
          · rename_i te hte;injection h with h;simp only [Prod.mk.injEq] at h;obtain ⟨rfl,rfl⟩:=h;obtain ⟨c0,c1,c2,c3,c4,c5,c6⟩:=hvc;have hy:=(hg y).strip c1;rw [hs] at hy;obtain ⟨A,n,c,e1,hn,hnc,hv⟩:=hy.li_sub;have hlo:=bound_lo hg hl c2;have hhi':=bound_hi hg hhi c3;have b1:0≤hh.getD xs.length:=by omega
            have hb:=hv l.toNat (hh.getD xs.length).toNat (by omega) (by omega);refine ⟨_,?_,hb⟩;have hrun:=run_slice_ok (P:=P) (w:=w) (und_slice (hT.1 _ _ hty)) (hT.1 _ _ hte) A n c (lo.map ρ) (hi.map ρ) l (hh.getD xs.length) ?_ ?_ c4 c5 (by omega) hnc
            · rw [c0] at hrun;simp [e1,hrun]
            · rcases hlo with ⟨h1,h2⟩ | ⟨z,k,h1,h2⟩
              · exact .inl ⟨by simp [h1],h2⟩
              · exact .inr ⟨k,by simp [h1,h2]⟩
            · rcases hhi' with ⟨h1,h2⟩ | ⟨z,k,zz,h1,h2,h3⟩
              · exact .inl ⟨by simp [h1],by simp [h2,hn]⟩
              · exact .inr ⟨k,by simp [h1,h2,h3]⟩
          · cases h
        · rename_i kk es j n l hh hs hl hhi;split at h
          · rename_i te hte;injection h with h;simp only [Prod.mk.injEq] at h;obtain ⟨rfl,rfl⟩:=h;obtain ⟨c0,c1,c2,c3,c4,c5,c6⟩:=hvc;have hy:=(hg y).strip c1;rw [hs] at hy;obtain ⟨A,c,e1,hnc,hv⟩:=hy.sl_sub;have hlo:=bound_lo hg hl c2;have hhi':=bound_hi hg hhi c3;have b1:0≤hh.getD n:=by omega
            have hb:=hv l.toNat (hh.getD n).toNat (by omega) (by omega);refine ⟨_,?_,hb⟩;have hrun:=run_slice_ok (P:=P) (w:=w) (und_slice (hT.1 _ _ hty)) (hT.1 _ _ hte) A n c (lo.map ρ) (hi.map ρ) l (hh.getD n) ?_ ?_ c4 c5 (by omega) hnc
            · rw [c0] at hrun;simp [e1,hrun]
            · rcases hlo with ⟨h1,h2⟩ | ⟨z,k,h1,h2⟩
              · exact .inl ⟨by simp [h1],h2⟩
              · exact .inr ⟨k,by simp [h1,h2]⟩
            · rcases hhi' with ⟨h1,h2⟩ | ⟨z,k,zz,h1,h2,h3⟩
              · exact .inl ⟨by simp [h1],by simp [h2]⟩
              · exact .inr ⟨k,by simp [h1,h2,h3]⟩
          · cases h
        · cases h
    · cases h
  · cases h
end
end Go.TravelAbs
namespace Go.TravelAbs
open Go.RowKit Go.TravelBase
section
variable {P:Program} {ty:Ty} {w:World} {S:CSet} {m:RMap}
def okc (x:AV):Bool:=x.cl.all AV.one
theorem cells_nonagg {v:Value} (h:v.oneCell'=true):v.cells = #[v]:=by
  cases v <;> first | rfl | cases h
theorem cells_of {x:AV} {v:Value} (h:VR w S m x v) (ho:okc x=true) :
    v.cells.size=x.cl.length∧(∀ (j:Nat) (y:AV),x.cl[j]? = some y → ∃ u,v.cells[j]? = some u∧VR w S m y u) ∧ ∀ u∈v.cells.toList,u.oneCell'=true:=by
  have hsingle:∀ {x:AV},x.cl=[x]→okc x=true→VR w S m x v→v.cells.size=x.cl.length∧(∀ (j:Nat) (y:AV),x.cl[j]? = some y → ∃ u,v.cells[j]? = some u∧VR w S m y u) ∧ ∀ u∈v.cells.toList,u.oneCell'=true:=by
    intro x hx ho h;have h1:x.one=true:=by simpa [okc,hx] using ho
    have h2:=h.one h1;rw [cells_nonagg h2,hx];refine ⟨rfl,fun j y hy=>?_,fun u hu=>?_⟩
    · match j,hy with
      | 0,hy =>
        simp at hy;subst hy;exact ⟨v,rfl,h⟩
    · simp at hu;subst hu;exact h2
  cases x with
  | agg xs =>
    obtain ⟨cs,rfl,hl,hp⟩:=h.agg_inv;refine ⟨hl,fun j y hy=>?_,fun u hu=>?_⟩
    · have hj:j<cs.size:=by rw [hl];exact (List.getElem?_eq_some_iff.1 hy).1
      exact ⟨cs[j],Array.getElem?_eq_getElem hj,hp j y _ hy (Array.getElem?_eq_getElem hj)⟩
    · obtain ⟨j,hj,e⟩:=List.getElem_of_mem hu;have hj':j<cs.size:=by simpa [Value.cells] using hj
      have hx:j<xs.length:=by omega
      have h1:=hp j xs[j] cs[j] (List.getElem?_eq_getElem hx) (Array.getElem?_eq_getElem hj');have h2:(xs[j]).one=true:=by
        have:=List.all_eq_true.1 ho xs[j] (List.getElem_mem hx);exact this
      have h3:=h1.one h2;rw [← e];simpa [Value.cells] using h3
  | lit v=>exact hsingle rfl ho h
  | by_ bs=>exact hsingle rfl ho h
  | li es xs=>exact hsingle rfl ho h
  | tup xs=>exact hsingle rfl ho h
  | sl k es i n=>exact hsingle rfl ho h
  | ptr k i off=>exact hsingle rfl ho h
  | ep y off=>exact hsingle rfl ho h
  | clo f caps=>exact hsingle rfl ho h
  | bm f fst=>exact hsingle rfl ho h
  | asl k i off n=>exact hsingle rfl ho h
  | opt c y=>exact hsingle rfl ho h
  | fr y=>exact hsingle rfl ho h
  | any=>exact hsingle rfl ho h
def HA (w:World) (S:CSet) (m:RMap) (es:Nat) (c:AV) (cur:Array Value):Prop :=
  ∀ i,i<cN c→(cAt c i).cl.length=es ∧ ∀ j y,(cAt c i).cl[j]? = some y → ∃ u,cur[i*es+j]? = some u∧VR w S m y u
def okL:AV→Prop
  | .by_ _=>True
  | .li _ xs=>∀ x∈xs,okc x=true
  | _=>False
def LR (w:World) (S:CSet) (m:RMap) (c:AV) (v:Value):Prop :=
  ∃ A n cap,v = .slice A n cap∧cN c=n∧n≤cap ∧
    (n=0 ∨ ∃ b off,A=some ⟨b,off,none⟩ ∧ ∀ i,i<n→(cAt c i).cl.length=cE c ∧ ∀ j y,(cAt c i).cl[j]? = some y → ∃ u,w.cell? ⟨b,off+(i*cE c+j),none⟩=some u∧VR w S m y u)
def asL (H:List (Nat × Blk)) (x:AV):Option (AV × Prop) :=
  match x with
  | .by_ bs=>some (.by_ bs,True)
  | .li es xs=>some (.li es xs,True)
  | .lit (.slice none 0 0)=>some (.by_ [],True)
  | .sl k es i n =>
    match lk H k with
    | some b=>some (sub b.c i n,b.mode<3∧i+n≤cN b.c)
    | none=>none
  | _=>none
theorem sub_at {c:AV} {i n j:Nat} (h:i+n≤cN c) (hj:j<n):cAt (sub c i n) j=cAt c (i+j)∧cE (sub c i n)=cE c:=by
  cases c with
  | by_ bs =>
    refine ⟨?_,rfl⟩;simp only [sub,cAt,List.getD];rw [List.getElem?_take,if_pos hj,List.getElem?_drop]
  | li es xs =>
    refine ⟨?_,rfl⟩;simp only [sub,cAt,List.getD];rw [List.getElem?_take,if_pos hj,List.getElem?_drop]
  | _=>simp only [cN] at h;omega
theorem sub_len {c:AV} {i n:Nat} (h:i+n≤cN c):cN (sub c i n)=n:=by
  cases c with
  | by_ bs=>simp only [cN] at h;simp [sub,cN];omega
  | li es xs=>simp only [cN] at h;simp [sub,cN];omega
  | _=>simp only [cN] at h;simp [sub,cN];omega
theorem cl_bA (b:UInt8):(bA b).cl=[bA b]:=rfl
theorem asL_ok {X:Cx} {H:List (Nat × Blk)} (hM:Mem X H S m w) {x:AV} {v:Value} (hv:VR w S m x v) {c:AV} {vc:Prop} (h:asL H x=some (c,vc)) (hvc:vc):LR w S m c v:=by
  unfold asL at h;split at h
  · injection h with h;simp only [Prod.mk.injEq] at h;obtain ⟨rfl,rfl⟩:=h;cases hv with
    | by_ hn hc hm h0 hA =>
      refine ⟨_,_,_,rfl,hn,hc,?_⟩;rcases hA with h | ⟨b,off,e,h⟩
      · exact .inl h
      · refine .inr ⟨b,off,e,fun i hi=>⟨rfl,fun j y hy=>?_⟩⟩;simp only [cAt,cl_bA] at hy;match j,hy with
        | 0,hy =>
          simp at hy;subst hy;refine ⟨_,?_,.lit _⟩;simp only [cE,Nat.mul_one,Nat.add_zero];exact (h i hi).2
  · injection h with h;simp only [Prod.mk.injEq] at h;obtain ⟨rfl,rfl⟩:=h;cases hv with
    | li us hn hc hm h0 hes he hA hh =>
      rename_i es xs A n cap;refine ⟨_,_,_,rfl,hn,hc,?_⟩;rcases Nat.eq_zero_or_pos n with h | hpos
      · exact .inl h
      · right;obtain ⟨b,off,e,h⟩:=hA.at_ (Nat.mul_pos hpos hes);refine ⟨b,off,e,fun i hi=>?_⟩;have hx:xs[i]? = some (cAt (.li es xs) i):=getD_of_lt (by omega);have hl:=he _ (List.mem_of_getElem? hx);refine ⟨hl,fun j y hy=>⟨us (i*es+j),?_,hh i j _ y hx hy⟩⟩;have hj:j<es:=by rw [← hl];exact (List.getElem?_eq_some_iff.1 hy).1
        exact (h _ (row_mul hi hj)).2
  · injection h with h;simp only [Prod.mk.injEq] at h;obtain ⟨rfl,rfl⟩:=h;obtain rfl:=hv.lit_inv;exact ⟨_,_,_,rfl,rfl,Nat.le_refl _,.inl rfl⟩
  · rename_i k es i n;split at h
    · rename_i b hb;injection h with h;simp only [Prod.mk.injEq] at h;obtain ⟨rfl,rfl⟩:=h;obtain ⟨hm,hlen⟩:=hvc;obtain ⟨r,A,h1,h2,h3,h4,h5,h6,rfl⟩:=hv.sl_inv;obtain ⟨r',h7,h8⟩:=hM.blk k b hb;rw [h1] at h7;injection h7 with h7;subst h7;have hB:=h8 hm;refine ⟨_,_,_,rfl,sub_len hlen,by omega,?_⟩;rcases Nat.eq_zero_or_pos n with h | hpos
      · exact .inl h
      · right;have:=hB.len;refine ⟨r.g,i*r.es,h5 (by omega),fun j hj=>?_⟩;obtain ⟨e1,e2⟩:=sub_at hlen hj;obtain ⟨q1,q2⟩:=hB.rd (i+j) (by omega);rw [e1,e2,← hB.es];refine ⟨q1,fun l y hy=>?_⟩;obtain ⟨u,q3,q4⟩:=q2 l y hy;refine ⟨u,?_,q4⟩;rw [Nat.add_mul,Nat.add_assoc] at q3;exact q3
    · cases h
  · cases h
theorem okL_one {c:AV} (hok:okL c) {i:Nat} (hi:i<cN c):∀ z∈(cAt c i).cl,z.one=true:=by
  intro z hz;cases c with
  | by_ bs =>
    simp only [cAt,cl_bA,List.mem_singleton] at hz;subst hz;rfl
  | li es' xs =>
    have hx:xs[i]? = some (cAt (.li es' xs) i):=getD_of_lt hi;exact List.all_eq_true.1 (hok _ (List.mem_of_getElem? hx)) _ hz
  | _=>exact hok.elim
theorem LR.news {c:AV} {v:Value} (h:LR w S m c v) {es:Nat} (he:cN c=0∨cE c=es) (hok:okL c) {tx e':TypeId} (hk:P.underlying tx=some (.slice e')) :
    ∃ news:List Value,Src P es tx v (cN c) news w∧HA w S m es c news.toArray:=by
  obtain ⟨A,n,cap,rfl,hn,hcap,hr⟩:=h;subst hn;rcases Nat.eq_zero_or_pos (cN c) with h0 | hpos
  · refine ⟨[],?_,fun i hi=>by omega⟩;rw [h0];cases A with
    | none=>exact Src.ofNil w hk cap
    | some a=>exact Src.ofSlice w hk a 0 cap [] (by simp) (fun j u hu=>by simp at hu) (fun u hu=>by cases hu)
  · have he:cE c=es:=by omega
    rcases hr with h | ⟨b,off,rfl,hr⟩
    · omega
    · rw [he] at hr;have hcell:∀ k,k<cN c*es → ∃ u,w.cell? ⟨b,off+k,none⟩=some u∧u.oneCell'=true:=by
        intro k hk;have hes:0<es:=by
          rcases Nat.eq_zero_or_pos es with h | h
          · rw [h] at hk;omega
          · exact h
        have hi:k / es<cN c:=(Nat.div_lt_iff_lt_mul hes).2 hk;obtain ⟨h1,h2⟩:=hr (k / es) hi;have hj:k % es<(cAt c (k / es)).cl.length:=by rw [h1];exact Nat.mod_lt _ hes
        obtain ⟨u,h3,h4⟩:=h2 (k % es) _ (List.getElem?_eq_getElem hj);refine ⟨u,?_,h4.one ?_⟩
        · rw [← h3,Nat.mul_comm,Nat.div_add_mod]
        · exact okL_one hok hi _ (List.getElem_mem hj)
      refine ⟨(List.range (cN c*es)).map fun k=>(w.cell? ⟨b,off+k,none⟩).getD undef,Src.ofSlice w hk _ _ _ _ (by simp) (fun j u hu=>?_) (fun u hu=>?_),fun i hi=>⟨(hr i hi).1,fun j y hy=>?_⟩⟩
      · rw [List.getElem?_map] at hu;obtain ⟨k,h1,rfl⟩:=Option.map_eq_some_iff.1 hu;have hj:j<cN c*es:=by have:=(List.getElem?_eq_some_iff.1 h1).1;simpa using this
        rw [List.getElem?_range hj] at h1;injection h1 with h1;subst h1;obtain ⟨u,h2,_⟩:=hcell j hj;rw [add_mid,h2];rfl
      · obtain ⟨k,h1,rfl⟩:=List.mem_map.1 hu;obtain ⟨u,h2,h3⟩:=hcell k (List.mem_range.1 h1);rw [h2];exact h3
      · obtain ⟨u,h1,h2⟩:=(hr i hi).2 j y hy;refine ⟨u,?_,h2⟩;have hj:j<es:=by rw [← (hr i hi).1];exact (List.getElem?_eq_some_iff.1 hy).1
        have hlt:=row_mul hi hj;simp [hlt,h1]
end
end Go.TravelAbs
namespace Go.TravelAbs
open Go.RowKit Go.TravelBase
structure Adv (S:CSet) (m:RMap) (w:World) (S':CSet) (m':RMap) (w':World):Prop where
  st:∀ b o,S b o→S' b o∧w'.cell? ⟨b,o,none⟩=w.cell? ⟨b,o,none⟩
  mp:∀ k r,m k=some r→m' k=some r
theorem Adv.refl (S:CSet) (m:RMap) (w:World):Adv S m w S m w:=⟨fun _ _ h=>⟨h,rfl⟩,fun _ _ h=>h⟩
theorem Adv.trans {S S' S2:CSet} {m m' m2:RMap} {w w' w2:World} (h:Adv S m w S' m' w') (k:Adv S' m' w' S2 m2 w2):Adv S m w S2 m2 w2 :=
  ⟨fun b o hs=>⟨(k.st b o (h.st b o hs).1).1,(k.st b o (h.st b o hs).1).2.trans (h.st b o hs).2⟩,fun i r hm=>k.mp i r (h.mp i r hm)⟩
theorem VR.adv {S S':CSet} {m m':RMap} {w w':World} {x:AV} {v:Value} (h:VR w S m x v) (a:Adv S m w S' m' w'):VR w' S' m' x v:=h.mono a.st a.mp
section
variable {P:Program} {ty:Ty} {X:Cx} {H:List (Nat × Blk)} {S:CSet} {m:RMap} {w:World}
theorem alloc_cell (o:Obj) {b:Nat} (hb:b<w.heap.size) (i:Nat):(w.alloc o).cell? ⟨b,i,none⟩=w.cell? ⟨b,i,none⟩:=World.cell?_alloc_lt w o ⟨b,i,none⟩ hb
theorem alloc_heap_lt (o:Obj) {b:Nat} (hb:b<w.heap.size):(w.alloc o).heap[b]? = w.heap[b]?:=by
  show (w.heap.push o)[b]? = _;rw [Array.getElem?_push_lt hb,Array.getElem?_eq_getElem hb]
theorem alloc_heap_new (o:Obj):(w.alloc o).heap[w.heap.size]? = some o:=by
  show (w.heap.push o)[_]? = _;exact Array.getElem?_push_size
theorem Frm.alloc {X:Cx} {w:World} (h:Frm X w) (o:Obj):Frm X (w.alloc o) :=
  ⟨h.os,h.tape,h.output,by have:=h.size;show _≤(w.heap.push o).size;simp;omega,fun g hg hl=>(alloc_heap_lt o (by have:=h.size;omega)).trans (h.block g hg hl),
    fun g o' hm=>(alloc_heap_lt o (Array.getElem?_eq_some_iff.1 (h.mark g o' hm)).1).trans (h.mark g o' hm),by have:=h.lo;show _≤(w.heap.push o).size;simp;omega⟩
theorem HA.mono {es:Nat} {c:AV} {cur:Array Value} {S':CSet} {m':RMap} {w':World} (h:HA w S m es c cur) (a:Adv S m w S' m' w'):HA w' S' m' es c cur:=by
  intro i hi;obtain ⟨h1,h2⟩:=h i hi;refine ⟨h1,fun j y hy=>?_⟩;obtain ⟨u,hu,hv⟩:=h2 j y hy;exact ⟨u,hu,hv.adv a⟩
theorem Mem.new (h:Mem X H S m w) {k:Nat} (hk:lk H k=none) {c:AV} {cap es:Nat} {cur:Array Value} (T:TypeId) (hs:cur.size=cap*es) (he:cE c=es) (hn:cN c≤cap) (hM:cap≤maxLen) (hh:HA w S m es c cur) :
    Mem X ((k,⟨c,0,false⟩)::H) S (mset m k ⟨w.heap.size,cap,es⟩) (w.alloc (.cells cur T))∧Adv S m w S (mset m k ⟨w.heap.size,cap,es⟩) (w.alloc (.cells cur T)):=by
  have hst:∀ b o,S b o→S b o∧(w.alloc (.cells cur T)).cell? ⟨b,o,none⟩=w.cell? ⟨b,o,none⟩:=fun b o hb=>⟨hb,alloc_cell _ (h.slt b o hb) o⟩;have hadv:Adv S m w S (mset m k ⟨w.heap.size,cap,es⟩) (w.alloc (.cells cur T)):=⟨hst,mset_le (.inl (h.dom k hk))⟩;refine ⟨h.upd k ⟨c,0,false⟩ ⟨w.heap.size,cap,es⟩ (.inl (h.dom k hk)) hst (h.frm.alloc _) h.s1 (fun b o hb=>?_) (fun j bj rj hj h1 h2 h3 h4=>?_) (fun _=>?_),hadv⟩
  · have:=h.slt b o hb;show _<(w.heap.push _).size;simp;omega
  · have hlt:=h.lt h1 h2 h3 h4;exact ⟨alloc_heap_lt _ hlt,fun _ q=>q,fun _ _=>Nat.ne_of_lt hlt⟩
  · refine ⟨he.symm,hn,hM,fun i hi=>?_,fun h1=>by simp at h1,fun _ hc=>⟨by show X.mine _;exact .inl h.frm.size,⟨cur,T,alloc_heap_new _,hs⟩,fun o _ hso=>by have:=h.slt _ _ hso;exact absurd this (Nat.lt_irrefl _)⟩⟩;obtain ⟨h1,h2⟩:=hh i hi;refine ⟨h1,fun j y hy=>?_⟩;obtain ⟨u,hu,hv⟩:=h2 j y hy;refine ⟨u,?_,hv.adv hadv⟩;unfold World.cell?;rw [alloc_heap_new];simpa using hu
theorem Mem.newE (h:Mem X H S m w) {k:Nat} (hk:lk H k=none) {c:AV} (hc:cN c=0) :
    Mem X ((k,⟨c,0,false⟩)::H) S (mset m k ⟨0,0,cE c⟩) w∧Adv S m w S (mset m k ⟨0,0,cE c⟩) w:=by
  have hst:∀ b o,S b o→S b o∧w.cell? ⟨b,o,none⟩=w.cell? ⟨b,o,none⟩:=fun b o hb=>⟨hb,rfl⟩;refine ⟨h.upd k ⟨c,0,false⟩ ⟨0,0,cE c⟩ (.inl (h.dom k hk)) hst h.frm h.s1 h.slt (fun j bj rj hj h1 h2 h3 h4=>⟨rfl,fun _ q=>q,fun _ h5=>by cases h5⟩) (fun _=>?_),⟨hst,mset_le (.inl (h.dom k hk))⟩⟩;exact ⟨rfl,by show cN c≤0;omega,Nat.zero_le _,fun i hi=>by have:i<cN c:=hi;omega,fun h1=>by simp at h1,fun _ h1=>by cases h1⟩
theorem Mem.drop (h:Mem X H S m w) {k:Nat} {b:Blk} {r:Row} (hk:lk H k=some b) (hr:m k=some r) (c:AV):Mem X ((k,⟨c,3,false⟩)::H) S m w:=by
  have e:mset m k r=m:=by
    funext j
    unfold mset;split
    · rename_i e;rw [e,hr]
    · rfl
  have:=h.upd (S':=S) (w':=w) k ⟨c,3,false⟩ r (.inr hr) (fun b o hb=>⟨hb,rfl⟩) h.frm h.s1 h.slt (fun j bj rj hj h1 h2 h3 h4=>⟨rfl,fun _ q=>q,fun h5=>by simp at h5⟩) (fun h3=>by simp at h3);rwa [e] at this
theorem Mem.shut (h:Mem X H S m w) {k:Nat} {b:Blk} {r:Row} (hk:lk H k=some b) (hr:m k=some r) (h1:b.mode=1):Mem X ((k,⟨b.c,2,b.ln⟩)::H) S m w:=by
  have e:mset m k r=m:=by
    funext j
    unfold mset;split
    · rename_i e;rw [e,hr]
    · rfl
  obtain ⟨r',h2,h3⟩:=h.blk k b hk;rw [hr] at h2;injection h2 with h2;subst h2;have hB:=h3 (by omega);have:=h.upd (S':=S) (w':=w) k ⟨b.c,2,b.ln⟩ r (.inr hr) (fun b o hb=>⟨hb,rfl⟩) h.frm h.s1 h.slt (fun j bj rj hj h1 h2 h3 h4=>⟨rfl,fun _ q=>q,fun h5=>by simp at h5⟩) (fun _=>by
    rw [e];exact ⟨hB.es,hB.len,hB.max,hB.rd,fun _=>hB.set (by omega),fun h6=>by simp at h6⟩)
  rwa [e] at this
def settle (S:CSet) (g k:Nat):CSet:=fun b o=>S b o∨(b=g∧o<k)
theorem Mem.freeze (h:Mem X H S m w) {k:Nat} {b:Blk} {r:Row} (hk:lk H k=some b) (hr:m k=some r) (h1:b.mode=0) (hln:b.ln=false) (hc:0<r.cap) :
    Mem X ((k,⟨b.c,1,false⟩)::H) (settle S r.g (cN b.c*r.es)) m w∧Adv S m w (settle S r.g (cN b.c*r.es)) m w:=by
  have e:mset m k r=m:=by
    funext j
    unfold mset;split
    · rename_i e;rw [e,hr]
    · rfl
  obtain ⟨r',h2,h3⟩:=h.blk k b hk;rw [hr] at h2;injection h2 with h2;subst h2;have hB:=h3 (by omega);obtain ⟨q1,⟨cur,T,q2,q3⟩,q4⟩:=hB.row (by omega) hc;have hlt:=h.lt hk hr (by omega) hc;have hst:∀ b' o,S b' o→settle S r.g (cN b.c*r.es) b' o∧w.cell? ⟨b',o,none⟩=w.cell? ⟨b',o,none⟩:=fun b' o hb=>⟨.inl hb,rfl⟩;have hadv:Adv S m w (settle S r.g (cN b.c*r.es)) m w:=⟨hst,fun _ _ q=>q⟩;refine ⟨?_,hadv⟩;have hown:X.mine r.g:=by
    rw [hln] at q1;exact q1
  have:=h.upd (S':=settle S r.g (cN b.c*r.es)) (w':=w) k ⟨b.c,1,false⟩ r (.inr hr) hst h.frm (fun b' o hb=>?_) (fun b' o hb=>?_) (fun j bj rj hj h1 h2 h3 h4=>?_) (fun _=>?_)
  · rwa [e] at this
  · rcases hb with hb | ⟨rfl,_⟩
    · exact h.s1 _ _ hb
    · exact .inr hown
  · rcases hb with hb | ⟨rfl,_⟩
    · exact h.slt _ _ hb
    · exact hlt
  · have hne:=h.apart hk hr (by omega) hc h1 h2 h3 h4 hj;exact ⟨rfl,fun o ho=>ho.resolve_right (fun q=>hne q.1),fun _ _=>hne⟩
  · rw [e];refine ⟨hB.es,hB.len,hB.max,fun i hi=>?_,fun _ o ho=>.inr ⟨rfl,ho⟩,fun _ _=>⟨hown,⟨cur,T,q2,q3⟩,fun o ho hs=>?_⟩⟩
    · obtain ⟨h5,h6⟩:=hB.rd i hi;refine ⟨h5,fun j y hy=>?_⟩;obtain ⟨u,hu,hv⟩:=h6 j y hy;exact ⟨u,hu,hv.adv hadv⟩
    · rcases ho with ho | ho
      · simp at ho
      · rcases hs with hs | ⟨_,hs⟩
        · exact q4 o (.inl h1) hs
        · have:cN b.c*r.es≤o:=ho;omega
def toB:AV→UInt8
  | .lit (.int _ z)=>UInt8.ofNat z.toNat
  | _=>0
def setE (c:AV) (i:Nat) (x:AV):AV :=
  match c with
  | .by_ bs=>.by_ (bs.set i (toB x))
  | .li es xs=>.li es (xs.set i x)
  | c=>c
def byteOK (x:AV):Prop:=x=bA (toB x)
def putX (x:AV) (off:Nat) (ys:List AV):AV :=
  match x with
  | .agg xs=>.agg (xs.take off++ys++xs.drop (off+ys.length))
  | x=>match ys with
    | [y]=>y
    | _=>x
theorem cl_single {x:AV} (h:isA x=false):x.cl=[x]:=by cases x <;> first | rfl | cases h
theorem putX_cl {x:AV} {off:Nat} {ys:List AV} (h1:off+ys.length≤x.cl.length) (h2:ys ≠ []) (h3:∀ y∈ys,y.one=true):(putX x off ys).cl=x.cl.take off++ys++x.cl.drop (off+ys.length):=by
  have hs:isA x=false→(putX x off ys).cl=x.cl.take off++ys++x.cl.drop (off+ys.length):=by
    intro hx;rw [cl_single hx] at h1 ⊢;simp only [List.length_cons,List.length_nil] at h1;have hy:ys.length ≠ 0:=by simpa using h2
    obtain ⟨y,rfl⟩:∃ y,ys=[y]:=List.length_eq_one_iff.1 (by omega);have h0:off=0:=by simp at h1;omega
    subst h0;have e:putX x 0 [y]=y:=by cases x <;> first | rfl | cases hx
    rw [e];have:y.one=true:=h3 y (by simp);cases y <;> first | rfl | cases this
  cases x with
  | agg xs=>rfl
  | _=>exact hs rfl
theorem setE_N (c:AV) (i:Nat) (x:AV):cN (setE c i x)=cN c∧cE (setE c i x)=cE c:=by
  cases c <;> simp [setE,cN,cE]
theorem setE_ne {c:AV} {i j:Nat} {x:AV} (h:j ≠ i):cAt (setE c i x) j=cAt c j:=by
  cases c <;> simp [setE,cAt,List.getD,List.getElem?_set_ne (Ne.symm h)]
theorem setE_eq {c:AV} {i:Nat} {x:AV} (hi:i<cN c) (hx:(∃ bs,c = .by_ bs)→byteOK x):cAt (setE c i x) i=x:=by
  cases c with
  | by_ bs =>
    have h:=hx ⟨_,rfl⟩;simp only [cN] at hi;simp only [setE,cAt,List.getD,List.getElem?_set_self hi];exact h.symm
  | li es xs =>
    simp only [cN] at hi;simp [setE,cAt,List.getD,List.getElem?_set_self hi]
  | _=>simp [cN] at hi
theorem setCells_size (b o:Nat):∀ (vs:List Value) (o:Nat) (w:World) (g:Nat) (cur:Array Value) (T:TypeId) (fz:Nat × Nat),w.heap[g]? = some (.cells cur T fz) → ∃ cur',(w.setCells b o vs).heap[g]? = some (.cells cur' T fz)∧cur'.size=cur.size
  | [],_,_,_,cur,_,_,h=>⟨cur,h,rfl⟩
  | v::vs,o,w,g,cur,T,fz,h=>by
    show ∃ cur',((w.setCell ⟨b,o,none⟩ v).setCells b (o+1) vs).heap[g]? = some (.cells cur' T fz)∧cur'.size=cur.size;have h1:∃ cur1,(w.setCell ⟨b,o,none⟩ v).heap[g]? = some (.cells cur1 T fz)∧cur1.size=cur.size:=by
      by_cases hg:g=b
      · subst hg;obtain ⟨hlt,he⟩:=Array.getElem?_eq_some_iff.1 h;refine ⟨cur.setIfInBounds o v,?_,by simp⟩;unfold World.setCell;simp [hlt,Array.getElem_modify,he]
      · exact ⟨cur,by rw [Below.heap_setCell w ⟨b,o,none⟩ v g hg];exact h,rfl⟩
    obtain ⟨cur1,h2,h3⟩:=h1;obtain ⟨cur2,h4,h5⟩:=setCells_size b o vs (o+1) _ g cur1 T fz h2;exact ⟨cur2,h4,h5.trans h3⟩
theorem setCells_heap (b:Nat):∀ (vs:List Value) (o:Nat) (w:World) (g:Nat),g ≠ b→(w.setCells b o vs).heap[g]? = w.heap[g]?
  | [],_,_,_,_=>rfl
  | u::vs,o,w,g,hg=>by
    show ((w.setCell ⟨b,o,none⟩ u).setCells b (o+1) vs).heap[g]? = _;rw [setCells_heap b vs (o+1) _ g hg,Below.heap_setCell w ⟨b,o,none⟩ u g hg]
theorem setCells_rest (b:Nat):∀ (vs:List Value) (o:Nat) (w:World),(w.setCells b o vs).os=w.os∧(w.setCells b o vs).tape=w.tape∧(w.setCells b o vs).output=w.output∧(w.setCells b o vs).heap.size=w.heap.size
  | [],_,_=>⟨rfl,rfl,rfl,rfl⟩
  | u::vs,o,w=>by
    obtain ⟨h1,h2,h3,h4⟩:=setCells_rest b vs (o+1) (w.setCell ⟨b,o,none⟩ u);exact ⟨h1,h2,h3,h4.trans (by simp)⟩
theorem setCells_others (b:Nat):∀ (vs:List Value) (o:Nat) (w:World) (g:Nat) (x:Obj),w.heap[g]? = some x→x.isCells=false→(w.setCells b o vs).heap[g]? = some x
  | [],_,_,_,_,h,_=>h
  | u::vs,o,w,g,x,h,hx=>setCells_others b vs (o+1) _ g x ((KeepsOthers.setCell w ⟨b,o,none⟩ u).same g x h hx) hx
theorem Frm.setCells {X:Cx} {w:World} (h:Frm X w) {b:Nat} (hb:X.w0.heap.size≤b∨X.lent b) (o:Nat) (vs:List Value):Frm X (w.setCells b o vs):=by
  obtain ⟨h1,h2,h3,h4⟩:=setCells_rest b vs o w;refine ⟨h1.trans h.os,h2.trans h.tape,h3.trans h.output,by rw [h4];exact h.size,fun g hg hl=>?_,fun g x hm=>setCells_others b vs o w g x (h.mark g x hm) (X.ex.nc g x hm),by rw [h4];exact h.lo⟩;rw [setCells_heap b vs o w g (fun e=>by subst e;rcases hb with hb | hb;omega;exact hl hb)]
  exact h.block g hg hl
theorem own_cases {X:Cx} {ln:Bool} {g:Nat} (h:X.own ln g):X.w0.heap.size≤g∨X.lent g:=by
  unfold Cx.own at h;split at h
  · exact .inr h
  · exact h.imp id fun q=>q.2
theorem Mem.put (h:Mem X H S m w) {k:Nat} {b:Blk} {r:Row} (hk:lk H k=some b) (hr:m k=some r) (h1:b.mode=0) {c':AV} {o:Nat} {vs:List Value} (hn:cN c'=cN b.c) (he:cE c'=cE b.c)
    (hvs:vs ≠ []) (hcap:0<r.cap) (ho:o+vs.length≤r.cap*r.es)
    (hrd:∀ i,i<cN c'→(cAt c' i).cl.length=r.es ∧ ∀ j y,(cAt c' i).cl[j]? = some y → ∃ u,(w.setCells r.g o vs).cell? ⟨r.g,i*r.es+j,none⟩=some u∧VR w S m y u) :
    Mem X ((k,⟨c',0,b.ln⟩)::H) S m (w.setCells r.g o vs)∧Adv S m w S m (w.setCells r.g o vs):=by
  have e:mset m k r=m:=by
    funext j
    unfold mset;split
    · rename_i e;rw [e,hr]
    · rfl
  obtain ⟨r',h2,h3⟩:=h.blk k b hk;rw [hr] at h2;injection h2 with h2;subst h2;have hB:=h3 (by omega);obtain ⟨q1,⟨cur,T,q2,q3⟩,q4⟩:=hB.row (by omega) hcap;have hst:∀ b' o',S b' o'→S b' o'∧(w.setCells r.g o vs).cell? ⟨b',o',none⟩=w.cell? ⟨b',o',none⟩:=by
    intro b' o' hb;refine ⟨hb,cell_of_heap (setCells_heap r.g vs o w b' (fun e=>?_)) o'⟩;subst e;exact q4 o' (.inl h1) hb
  have hadv:Adv S m w S m (w.setCells r.g o vs):=⟨hst,fun _ _ q=>q⟩;refine ⟨?_,hadv⟩;obtain ⟨_,_,_,hsz⟩:=setCells_rest r.g vs o w;have:=h.upd (S':=S) (w':=w.setCells r.g o vs) k ⟨c',0,b.ln⟩ r (.inr hr) hst (h.frm.setCells (own_cases q1) o vs) h.s1 (fun b' o' hb=>by rw [hsz];exact h.slt _ _ hb) (fun j bj rj hj h1' h2 h3 h4=>?_) (fun _=>?_)
  · rwa [e] at this
  · have hne:=h.apart hk hr (by omega) hcap h1' h2 h3 h4 hj;exact ⟨setCells_heap r.g vs o w rj.g hne,fun o q=>q,fun _ _=>hne⟩
  · rw [e];obtain ⟨cur',q5,q6⟩:=setCells_size r.g o vs o w r.g cur T _ q2;refine ⟨hB.es.trans he.symm,by show cN c'≤_;rw [hn];exact hB.len,hB.max,fun i hi=>?_,fun h5=>by simp at h5,fun _ _=>⟨q1,⟨cur',T,q5,by rw [q6];exact q3⟩,fun o _=>q4 o (.inl h1)⟩⟩;obtain ⟨h5,h6⟩:=hrd i hi;refine ⟨h5,fun j y hy=>?_⟩;obtain ⟨u,hu,hv⟩:=h6 j y hy;exact ⟨u,hu,hv.adv hadv⟩
end
end Go.TravelAbs
namespace Go.TravelAbs
open Go.RowKit Go.TravelBase
structure Out where
  v:AV
  eff:List (Nat × Blk)
  vc:Prop
def zeroA (ti:TI):AV:=if ti.kind.row=true then .agg (ti.zero.map .lit) else .lit (ti.zero.headD undef)
def zOK (ti:TI):Bool:=ti.zero.length == ti.size && ti.zero.all (·.oneCell') && (ti.kind.row || ti.size == 1) && decide (0<ti.size)
def isU8 (ti:TI):Bool :=
  match ti.kind with
  | .int .u8=>true
  | _=>false
def isBy:AV→Bool
  | .by_ _=>true
  | _=>false
def ldA (ti:TI) (x:AV) (off:Nat):AV × Prop :=
  if ti.kind.row=true then (.agg ((x.cl.drop off).take ti.size),off+ti.size≤x.cl.length) else (x.cl.getD off (zeroA ti),off<x.cl.length)
def emptyC (ti:TI):AV:=if isU8 ti=true then .by_ [] else .li ti.size []
def catC (a b:AV):AV :=
  match a,b with
  | .by_ x,.by_ y=>.by_ (x++y)
  | .li e x,.li _ y=>.li e (x++y)
  | .li e x,.by_ []=>.li e x
  | _,_=>.any
def catOK (a b:AV):Prop :=
  match a,b with
  | .by_ _,.by_ _=>True
  | .li _ _,.li _ _=>True
  | .li _ _,.by_ []=>True
  | _,_=>False
def cpA (a:AV) (i:Nat) (b:AV) (k:Nat):AV :=
  match a,b with
  | .by_ x,.by_ y=>.by_ (x.take i++y.take k++x.drop (i+k))
  | .li e x,.li _ y=>.li e (x.take i++y.take k++x.drop (i+k))
  | _,_=>.any
def cpOK (a b:AV):Prop :=
  match a,b with
  | .by_ _,.by_ _=>True
  | .li _ _,.li _ _=>True
  | _,_=>False
def mkC (te:TI) (xs:List AV):AV:=if isU8 te=true then .by_ (xs.map toB) else .li te.size xs
def mkOK (te:TI) (xs:List AV):Prop:=(∀ x∈xs,okc x=true∧x.cl.length=te.size)∧(isU8 te=true → ∀ x∈xs,byteOK x)
def putL (cs:List AV) (off:Nat) (ys:List AV):List AV:=cs.take off++ys++cs.drop (off+ys.length)
def fillA (fs:List (Nat × Nat × Bool)):List AV→List (Nat × AV)→List AV
  | cs,[]=>cs
  | cs,x::r=>fillA fs (putL cs (fs.getD x.1 (0,0,false)).1 x.2.cl) r
def fillOK (fs:List (Nat × Nat × Bool)) (n:Nat) (ps:List (Nat × AV)):Prop :=
  ∀ x∈ps,x.1<fs.length∧okc x.2=true∧x.2.cl.length=(fs.getD x.1 (0,0,false)).2.1∧(fs.getD x.1 (0,0,false)).1+(fs.getD x.1 (0,0,false)).2.1≤n∧(fs.getD x.1 (0,0,false)).2.1 ≠ 0
def srcA (H:List (Nat × Blk)) (t:Option TI) (x:AV):Option (AV × Prop) :=
  match t,x with
  | some ⟨.slice _,_,_,_⟩,x=>asL H x
  | some ⟨.str,_,_,_⟩,.lit (.string s)=>some (.by_ s.data.toList,True)
  | _,_=>none
def isZ:Operand→Bool
  | .const (.int _ z)=>decide (z=0)
  | _=>false
def evM (ty:Ty) (H:List (Nat × Blk)) (fr:Nat) (g:Operand→AV) (op:Op):Option Out :=
  match op with
  | .alloc e =>
    match ty e with
    | some ti=>some ⟨.ptr fr 0 0,[(fr,⟨.li ti.size [zeroA ti],0,false⟩)],zOK ti=true⟩
    | none=>none
  | .box e x =>
    match ty e with
    | some ti=>some ⟨.ptr fr 0 0,[(fr,⟨.li ti.size [stp (g x)],0,false⟩)],cnd (g x)∧okc (stp (g x))=true∧(stp (g x)).cl.length=ti.size∧0<ti.size⟩
    | none=>none
  | .load t a =>
    match ty t,stp (g a) with
    | some ti,.ptr k i off =>
      match lk H k with
      | some b=>some ⟨(ldA ti (cAt b.c i) off).1,[],cnd (g a)∧b.mode<3∧i<cN b.c∧(ldA ti (cAt b.c i) off).2⟩
      | none=>none
    | some ti,.ep x off=>some ⟨(ldA ti x off).1,[],cnd (g a)∧(ldA ti x off).2⟩
    | _,_=>none
  | .store t a x =>
    match ty t,stp (g a) with
    | some ti,.ptr k i off =>
      match lk H k with
      | some b=>some ⟨.any,[(k,⟨setE b.c i (putX (cAt b.c i) off (stp (g x)).cl),0,b.ln⟩)],cnd (g a)∧cnd (g x)∧b.mode=0∧i<cN b.c∧(stp (g x)).cl.length=ti.size∧0<ti.size ∧
          off+ti.size≤cE b.c∧okc (stp (g x))=true∧(isBy b.c=true→byteOK (putX (cAt b.c i) off (stp (g x)).cl))⟩
      | none=>none
    | _,_=>none
  | .build t parts =>
    match ty t with
    | some ⟨.struct fs,sz,_,zero⟩=>some ⟨.agg (fillA fs (zero.map .lit) (parts.toList.map fun p=>(p.1,stp (g p.2)))),[],(∀ p∈parts.toList,cnd (g p.2))∧fillOK fs zero.length (parts.toList.map fun p=>(p.1,stp (g p.2)))∧fs.all (fun x=>x.2.1 != 0)=true⟩
    | some ⟨.array n e,sz,_,zero⟩ =>
      match ty e with
      | some te=>some ⟨.agg (fillA ((List.range n).map fun i=>(i*te.size,te.size,false)) (zero.map .lit) (parts.toList.map fun p=>(p.1,stp (g p.2)))),[],
          (∀ p∈parts.toList,cnd (g p.2))∧fillOK ((List.range n).map fun i=>(i*te.size,te.size,false)) zero.length (parts.toList.map fun p=>(p.1,stp (g p.2)))⟩
      | none=>none
    | _=>none
  | .buildSlice t len parts =>
    match ty t with
    | some ⟨.slice e,_,_,_⟩ =>
      match ty e with
      | some te=>some ⟨.sl fr te.size 0 len,[(fr,⟨mkC te (parts.toList.map fun p=>stp (g p.2)),0,false⟩)],(∀ p∈parts.toList,cnd (g p.2))∧parts.toList.map (·.1)=List.range len∧True∧0<te.size∧len*te.size≤2 ^ 24 ∧
          mkOK te (parts.toList.map fun p=>stp (g p.2))∧(isU8 te=true→te.size=1)⟩
      | none=>none
    | _=>none
  | .makeSlice t l c =>
    match ty t,stp (g l),stp (g c) with
    | some ⟨.slice e,_,_,_⟩,.lit (.int _ x),.lit (.int _ y) =>
      match ty e with
      | some te=>some ⟨.sl fr te.size 0 x.toNat,[(fr,⟨mkC te (List.replicate x.toNat (zeroA te)),0,false⟩)],cnd (g l)∧cnd (g c)∧0≤x∧x=y∧te.bytes*x≤140737488355328∧x≤9223372036854775807∧te.size=1∧zOK te=true∧te.kind.row=false ∧
          (isU8 te=true→te.zero=[.int .u8 0])⟩
      | none=>none
    | _,_,_=>none
  | .slice t x none (some h) (some m) =>
    if (isZ h && isZ m)=true then (
    match ty t,stp (g x),idx (stp (g h)),idx (stp (g m)) with
    | some ⟨.slice e,_,_,_⟩,y,some a,some b =>
      match ty e,asL H y with
      | some te,some (_,vc)=>some ⟨.sl fr (cE (emptyC te)) 0 0,[(fr,⟨emptyC te,0,false⟩)],cnd (g x)∧cnd (g h)∧cnd (g m)∧a=0∧b=0∧vc⟩
      | _,_=>none
    | _,_,_,_=>none)
    else none
  | .convert src dst x =>
    match ty src,ty dst,stp (g x) with
    | some ⟨.str,_,_,_⟩,some ⟨.slice e,_,_,_⟩,.lit (.string s) =>
      match ty e with
      | some ⟨.int .u8,_,_,_⟩=>some ⟨.by_ s.data.toList,[(fr,⟨.by_ [],3,false⟩)],cnd (g x)∧s.size≤maxLen⟩
      | _=>none
    | _,_,_=>none
  | .call ⟨.builtin .len,args,ats⟩ =>
    match args.toList,ats.toList with
    | [x],[t] =>
      match ty t,stp (g x) with
      | some ⟨.slice _,_,_,_⟩,.by_ bs=>some ⟨.lit (.int .i64 bs.length),[],cnd (g x)⟩
      | some ⟨.slice _,_,_,_⟩,.li _ xs=>some ⟨.lit (.int .i64 xs.length),[],cnd (g x)⟩
      | some ⟨.slice _,_,_,_⟩,.sl _ _ _ n=>some ⟨.lit (.int .i64 n),[],cnd (g x)⟩
      | some ⟨.slice _,_,_,_⟩,.lit (.slice none 0 0)=>some ⟨.lit (.int .i64 0),[],cnd (g x)⟩
      | some ⟨.str,_,_,_⟩,.lit (.string s)=>some ⟨.lit (.int .i64 s.size),[],cnd (g x)⟩
      | some ⟨.array n _,_,_,_⟩,_=>some ⟨.lit (.int .i64 n),[],True⟩
      | _,_=>none
    | _,_=>none
  | .call ⟨.builtin .min,args,_⟩ =>
    match args.toList with
    | [x,y] =>
      match stp (g x),stp (g y) with
      | .lit (.int k a),.lit (.int _ b)=>some ⟨.lit (.int k (if b<a then b else a)),[],cnd (g x)∧cnd (g y)⟩
      | _,_=>none
    | _=>none
  | .call ⟨.builtin .max,args,_⟩ =>
    match args.toList with
    | [x,y] =>
      match stp (g x),stp (g y) with
      | .lit (.int k a),.lit (.int _ b)=>some ⟨.lit (.int k (if a<b then b else a)),[],cnd (g x)∧cnd (g y)⟩
      | _,_=>none
    | _=>none
  | .call ⟨.builtin .append,args,ats⟩ =>
    match args.toList,ats.toList with
    | [s,x],[t,u] =>
      match ty t,srcA H (ty u) (stp (g x)) with
      | some ⟨.slice e,_,_,_⟩,some (c,vc) =>
        match ty e,stp (g s) with
        | some te,.lit (.slice none 0 0) =>
          some ⟨.sl fr te.size 0 (cN c),[(fr,⟨catC (emptyC te) c,0,false⟩)],cnd (g s)∧cnd (g x)∧vc∧okL c∧catOK (emptyC te) c∧(cN c=0∨cE c=te.size)∧cN c*te.bytes≤140737488355328∧cN c≤maxLen∧cE (emptyC te)=te.size∧zOK te=true⟩
        | some te,.sl k es i n =>
          match lk H k with
          | some b =>
            if n=cN b.c then
              if b.mode=1 then
                some ⟨.sl fr es 0 (n+cN c),[(fr,⟨catC b.c c,1,false⟩),(k,⟨b.c,2,b.ln⟩)],cnd (g s)∧cnd (g x)∧vc∧okL c∧catOK b.c c∧(cN c=0∨cE c=te.size)∧(n+cN c)*te.bytes≤140737488355328∧n+cN c≤maxLen ∧
                  i=0∧n=cN b.c∧b.mode=1∧b.ln=false∧es=te.size∧zOK te=true⟩
              else
              some ⟨.sl fr es 0 (n+cN c),[(fr,⟨catC b.c c,0,false⟩),(k,⟨b.c,3,false⟩)],cnd (g s)∧cnd (g x)∧vc∧okL c∧catOK b.c c∧(cN c=0∨cE c=te.size)∧(n+cN c)*te.bytes≤140737488355328∧n+cN c≤maxLen ∧
                i=0∧n=cN b.c∧b.mode=0∧b.ln=false∧es=te.size∧zOK te=true⟩
            else
              some ⟨.sl k es 0 (n+cN c),[(k,⟨cpA b.c n c (cN c),0,b.ln⟩)],cnd (g s)∧cnd (g x)∧vc∧okL c∧cpOK b.c c∧cE c=te.size∧es=te.size∧0<te.size∧i=0∧n+cN c≤cN b.c∧b.mode=0⟩
          | none=>none
        | _,_=>none
      | _,_=>none
    | _,_=>none
  | .call ⟨.builtin .copy,args,ats⟩ =>
    match args.toList,ats.toList with
    | [s,x],[t,u] =>
      match ty t,ty u,asL H (stp (g x)),stp (g s) with
      | some ⟨.slice e,_,_,_⟩,some ⟨.slice _,_,_,_⟩,some (c,vc),.sl k es i n =>
        match ty e,lk H k with
        | some te,some b=>some ⟨.lit (.int .i64 (min (cN c) n:Nat)),[(k,⟨cpA b.c i c (min (cN c) n),0,b.ln⟩)],cnd (g s)∧cnd (g x)∧vc∧okL c∧cpOK b.c c∧cE c=te.size∧es=te.size∧0<te.size∧i+n≤cN b.c∧b.mode=0⟩
        | _,_=>none
      | _,_,_,_=>none
    | _,_=>none
  | _=>none
end Go.TravelAbs
