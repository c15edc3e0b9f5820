import Derived.WalkKit
import Derived.Deep.AppendLies
import Derived.Lib.Hide
import Derived.Deep.Draws
import Derived.Deep.QuietTactic
import Derived.Deep.RegionLaw
import Derived.WalkSpells
import Derived.BigQuiet
import Derived.Test.YtjjkfpbkmhfckaaGreatDoorRows
import Derived.ProofKit
import Derived.OpenShut
import Derived.ShutString
import Derived.ChangeOld
import Derived.SizedLaws
import Derived.Deep.CondSized
set_option linter.unusedVariables false
set_option linter.unusedSimpArgs false
set_option maxHeartbeats 1000000
set_option maxRecDepth 10000
namespace Go.TravelBase
open Go.RowKit
def bv (b:UInt8):Value:=.int .u8 (b.toNat:Int)
def bvs (l:List UInt8):List Value:=l.map bv
theorem length_bvs (l:List UInt8):(bvs l).length=l.length:=by simp [bvs]
theorem bvs_append (a b:List UInt8):bvs (a++b)=bvs a++bvs b:=by simp [bvs]
theorem bvs_get {l:List UInt8} {j:Nat} {b:UInt8} (h:l[j]? = some b):(bvs l)[j]? = some (bv b):=by simp [bvs,h]
theorem one_bvs (l:List UInt8):∀ u∈bvs l,u.oneCell'=true:=by
  intro u hu;simp only [bvs,List.mem_map] at hu;obtain ⟨b,_,rfl⟩:=hu;rfl
theorem ofInt_i64 (a:Nat) (ha:a<9223372036854775808):(BitVec.ofInt 64 (a:Int)).toNat=a:=by
  rw [BitVec.ofInt_natCast,BitVec.toNat_ofNat];exact Nat.mod_eq_of_lt (by omega)
theorem or_i64 (a b:Nat) (ha:a<9223372036854775808) (hb:b<9223372036854775808):bits .or .i64 (a:Int) (b:Int)=((a ||| b:Nat):Int):=by
  have hx:a ||| b<2 ^ 63:=Nat.or_lt_two_pow (by omega) (by omega);show IntKind.i64.wrap ((BitVec.ofInt 64 (a:Int) ||| BitVec.ofInt 64 (b:Int)).toNat:Int)=_;rw [BitVec.toNat_or,ofInt_i64 a ha,ofInt_i64 b hb,IntKind.wrap_i64];omega
theorem and_i64 (a b:Nat) (ha:a<9223372036854775808) (hb:b<9223372036854775808):bits .and .i64 (a:Int) (b:Int)=((a &&& b:Nat):Int):=by
  have hx:a &&& b<2 ^ 63:=Nat.and_lt_two_pow _ (by omega);show IntKind.i64.wrap ((BitVec.ofInt 64 (a:Int) &&& BitVec.ofInt 64 (b:Int)).toNat:Int)=_;rw [BitVec.toNat_and,ofInt_i64 a ha,ofInt_i64 b hb,IntKind.wrap_i64];omega
theorem or_byte (x b:Nat) (hx:x<281474976710656) (hb:b<256):bits .or .i64 ((x:Int)*256) (b:Int)=((x*256+b:Nat):Int):=by
  have e:((x:Int)*256)=((x*256:Nat):Int):=by omega
  rw [e,or_i64 _ _ (by omega) (by omega)];have h:=Nat.two_pow_add_eq_or_of_lt (i:=8) (b:=b) (by omega) x;have e2:x*256=2 ^ 8*x:=by omega
  rw [e2,← h]
def Rd (w:World) (A:Option Addr) (n c:Nat) (xs:List Value):Prop :=
  xs.length=n∧n≤c∧c≤maxLen∧(A=none→c=0) ∧
    (0<n → ∃ b off,A=some ⟨b,off,none⟩∧b<w.heap.size ∧ ∀ j u,xs[j]? = some u→w.cell? ⟨b,off+j,none⟩=some u)
section
variable {w w':World} {n c:Nat} {A:Option Addr} {xs:List Value}
theorem Rd.len (h:Rd w A n c xs):xs.length=n:=h.1
theorem Rd.cap (h:Rd w A n c xs):n≤c:=h.2.1
theorem Rd.max (h:Rd w A n c xs):c≤9223372036854775807:=h.2.2.1
theorem Rd.nil_ (w:World):Rd w none 0 0 []:=⟨rfl,Nat.le_refl _,Nat.zero_le _,fun _=>rfl,fun h=>absurd h (by omega)⟩
theorem Rd.none_ (h:Rd w none n c xs):n=0∧c=0∧xs=[]:=by
  have h1:=h.2.2.2.1 rfl;have h2:=h.cap;have h3:n=0:=by omega
  exact ⟨h3,h1,List.eq_nil_of_length_eq_zero (by rw [h.1,h3])⟩
theorem Rd.at_ (h:Rd w A n c xs) (hn:0<n):∃ b off,A=some ⟨b,off,none⟩∧b<w.heap.size ∧ ∀ j u,xs[j]? = some u→w.cell? ⟨b,off+j,none⟩=some u:=h.2.2.2.2 hn
theorem Rd.below (h:Rd w A n c xs) (hb:Below w.heap.size w w'):Rd w' A n c xs :=
  ⟨h.1,h.2.1,h.2.2.1,h.2.2.2.1,fun hn=>by
    obtain ⟨b,off,e,hlt,hc⟩:=h.at_ hn;exact ⟨b,off,e,Nat.lt_of_lt_of_le hlt hb.size,fun j u hu=>(hb.cell (p:=⟨b,off+j,none⟩) hlt).trans (hc j u hu)⟩⟩
theorem Rd.drew (h:Rd w A n c xs):Rd w.drew A n c xs:=h
theorem Rd.drewN (h:Rd w A n c xs) (k:Nat):Rd (w.drewN k) A n c xs:=h
theorem Rd.alloc (h:Rd w A n c xs) (o:Obj):Rd (w.alloc o) A n c xs:=h.below ((Below.refl _ _).alloc (Nat.le_refl _) o)
def cutA (A:Option Addr) (c k:Nat):Option Addr:=if c=k then A else A.map (·.add k)
theorem add_plain (b off k:Nat):(⟨b,off,none⟩:Addr).add k=⟨b,off+k,none⟩:=by
  unfold Addr.add;split <;> simp_all
theorem Rd.drop (h:Rd w A n c xs) {k:Nat} (hk:k≤n):Rd w (cutA A c k) (n-k) (c-k) (xs.drop k):=by
  have hc:=h.cap;refine ⟨by rw [List.length_drop,h.1],by omega,by have:=h.2.2.1;omega,fun e=>?_,fun hn=>?_⟩
  · unfold cutA at e;split at e
    · omega
    · have:=h.2.2.2.1 (by simpa using e);omega
  · obtain ⟨b,off,rfl,hlt,hcell⟩:=h.at_ (by omega);unfold cutA;rw [if_neg (by omega)];refine ⟨b,off+k,by simp [add_plain],hlt,fun j u hu=>?_⟩;rw [Nat.add_assoc];exact hcell _ u (by rw [← hu,List.getElem?_drop])
theorem Rd.take (h:Rd w A n c xs) {k:Nat} (hk:k≤n):Rd w A k c (xs.take k):=by
  have hc:=h.cap;refine ⟨by rw [List.length_take,h.1];omega,by omega,h.2.2.1,h.2.2.2.1,fun hn=>?_⟩;obtain ⟨b,off,rfl,hlt,hcell⟩:=h.at_ (by omega);refine ⟨b,off,rfl,hlt,fun j u hu=>hcell _ u ?_⟩;rw [List.getElem?_take] at hu;split at hu
  · exact hu
  · cases hu
theorem Rd.slice (h:Rd w A n c xs) {k m:Nat} (hk:k≤m) (hm:m≤n):Rd w (cutA A c k) (m-k) (c-k) ((xs.take m).drop k):=(h.take hm).drop hk
theorem Rd.of_own {base:Nat} {e:TypeId} (h:w.ownsRow base e 1 (.slice A n c) n xs):Rd w A n c xs:=by
  rcases h.2 with ⟨h1,rfl⟩ | ⟨g,cap,cur,h1,hb,hg,hnc,hcm,hcs,htake⟩
  · simp only [Value.slice.injEq] at h1;obtain ⟨rfl,_,rfl⟩:=h1;have:xs=[]:=List.eq_nil_of_length_eq_zero (by simpa using h.1);subst this;exact Rd.nil_ w
  · simp only [Value.slice.injEq,true_and] at h1;obtain ⟨rfl,rfl⟩:=h1;have hlt:g<w.heap.size:=by
      rcases Nat.lt_or_ge g w.heap.size with hlt | hge
      · exact hlt
      · rw [Array.getElem?_eq_none hge] at hg;cases hg
    refine ⟨by simpa using h.1,hnc,hcm,fun e=>(by cases e),fun hn=>⟨g,0,rfl,hlt,fun j u hu=>?_⟩⟩;have hj:j<n*1:=by
      have:=(List.getElem?_eq_some_iff.1 hu).1;rw [h.1] at this;exact this
    rw [Nat.zero_add,h.cellAt j hj];exact hu
end
theorem ownsRow_below {w w':World} {base:Nat} {e:TypeId} {size:Nat} {v:Value} {n:Nat} {xs:List Value} (h:w.ownsRow base e size v n xs) (hb:Below w.heap.size w w'):w'.ownsRow base e size v n xs:=by
  refine ⟨h.1,?_⟩;rcases h.2 with hn | ⟨g,cap,cur,rfl,hbg,hg,rest⟩
  · exact .inl hn
  · have hlt:g<w.heap.size:=by
      rcases Nat.lt_or_ge g w.heap.size with hlt | hge
      · exact hlt
      · rw [Array.getElem?_eq_none hge] at hg;cases hg
    exact .inr ⟨g,cap,cur,rfl,hbg,by rw [hb.block g hlt];exact hg,rest⟩
theorem ownsRow_base {w:World} {base base':Nat} {e:TypeId} {size:Nat} {v:Value} {n:Nat} {xs:List Value} (h:w.ownsRow base e size v n xs) (hb:base'≤base):w.ownsRow base' e size v n xs:=by
  refine ⟨h.1,?_⟩;rcases h.2 with hn | ⟨g,cap,cur,rfl,hbg,rest⟩
  · exact .inl hn
  · exact .inr ⟨g,cap,cur,rfl,by omega,rest⟩
theorem Rd.empty_ (w:World) (A:Option Addr):Rd w A 0 0 []:=⟨rfl,Nat.le_refl _,Nat.zero_le _,fun _=>rfl,fun h=>absurd h (by omega)⟩
def Ap (w:World) (base:Nat) (e:TypeId) (A:Option Addr) (n c:Nat) (xs:List Value):Prop :=
  w.ownsRow base e 1 (.slice A n c) n xs∨(n=0∧c=0∧xs=[])
theorem Ap.rd {w:World} {base:Nat} {e:TypeId} {A:Option Addr} {n c:Nat} {xs:List Value} (h:Ap w base e A n c xs):Rd w A n c xs:=by
  rcases h with h | h
  · exact Rd.of_own h
  · obtain ⟨rfl,rfl,rfl⟩:=h;exact Rd.empty_ w A
theorem Ap.below {w w':World} {base:Nat} {e:TypeId} {A:Option Addr} {n c:Nat} {xs:List Value} (h:Ap w base e A n c xs) (hb:Below w.heap.size w w'):Ap w' base e A n c xs:=by
  rcases h with h | h
  · exact .inl (ownsRow_below h hb)
  · exact .inr h
theorem Ap.drew {w:World} {base:Nat} {e:TypeId} {A:Option Addr} {n c:Nat} {xs:List Value} (h:Ap w base e A n c xs):Ap w.drew base e A n c xs:=h
theorem Ap.nil_ (w:World) (base:Nat) (e:TypeId):Ap w base e none 0 0 []:=.inl (World.ownsRow_nil w base e 1)
theorem Ap.block {w:World} {base:Nat} {e:TypeId} {A:Option Addr} {n c:Nat} {xs:List Value} (h:w.ownsRow base e 1 (.slice A n c) n xs):∀ k,(Value.slice A n c).ownBlock=some k→base≤k∧k<w.heap.size:=World.ownsRow.lt h
def Kept (w:World) (base:Nat) (e:TypeId) (A:Option Addr) (n c:Nat) (xs:List Value) (w':World):Prop :=
  w.grownBy w' none∨(w.grownBy w' (Value.slice A n c).ownBlock∧w.ownsRow base e 1 (.slice A n c) n xs)
section
variable {P:Program} (w:World)
theorem run_append_ap (base:Nat) (t ty e:TypeId) (i:TypeInfo) (z:Value) (bytes:Nat) (ht:P.underlying t=some (.slice e)) (hi:P.info? e=some i) (hz:i.zero=some z)
    (hsize:i.size=1) (hby:i.bytes=bytes) (hzs:z.cells.size=1)
    (A:Option Addr) (n c:Nat) (xs:List Value) (hap:Ap w base e A n c xs)
    (A':Option Addr) (m c':Nat) (news:List Value) (hr:Rd w A' m c' news) (h1:∀ u∈news,u.oneCell'=true)
    (hbytes:(n+m)*bytes≤140737488355328) (hmax:n+m≤maxLen) (hbase:base≤w.heap.size) :
    ∃ A2 c2 w',(Builtin.append_ #[t,t] ty #[.slice A n c,.slice A' m c']).run P w = .ok (.slice A2 (n+m) c2) w'∧Ap w' base e A2 (n+m) c2 (xs++news) ∧
      Kept w base e A n c xs w'∧Below base w w'∧(0<m→A2 ≠ none):=by
  have hxs:xs.length=n:=hap.rd.len;rcases Nat.eq_zero_or_pos m with hm | hm
  · subst hm;have hn:news=[]:=List.eq_nil_of_length_eq_zero hr.len;subst hn;refine ⟨A,c,w,?_,by simpa using hap,.inl (World.grownBy.refl w _),Below.refl _ _,fun h=>absurd h (by omega)⟩;have hnc:=hap.rd.cap;cases A' with
    | none=>cases A <;> simp [Builtin.append_,run_underlying ht,sizeOf,typeInfo,hi,Builtin.lenOf,Builtin.firstCells,hnc,storeCells]
    | some ad=>cases A <;> simp [Builtin.append_,run_underlying ht,sizeOf,typeInfo,hi,Builtin.lenOf,Builtin.firstCells,hnc,storeCells,loadCells,loadCellsFrom]
  · obtain ⟨b,off,rfl,hlt,hcell⟩:=hr.at_ hm;have hnews:∀ j u,news[j]? = some u→w.cell? ((⟨b,off,none⟩:Addr).add j)=some u:=fun j u hu=>by rw [add_plain];exact hcell j u hu
    have hl:news.length=m*1:=by rw [hr.len];omega
    have fin:∀ (v1:Value) (w1:World),w1.ownsRow base e 1 v1 (n+m) (xs++news) → ∃ A2 c2,v1=Value.slice A2 (n+m) c2∧A2 ≠ none:=by
      intro v' w' ho;obtain ⟨g,cap,rfl,_,_⟩:=ho.form (by omega);exact ⟨_,_,rfl,by simp⟩
    rcases hap with hown | ⟨hn0,hc0,hx0⟩
    · obtain ⟨v',w',hrun,h2,h3,_⟩:=run_append_own (P:=P) w base t ty e i z 1 bytes ht hi hz hsize hby hzs (by omega) _ n xs hown ⟨b,off,none⟩ m c' news hl hnews h1 hmax hbytes hbase;obtain ⟨A2,c2,rfl,hne⟩:=fin v' w' h2;exact ⟨A2,c2,w',hrun,.inl h2,.inr ⟨h3,hown⟩,(Below.refl base w).grown h3 hbase (fun k hk=>(hown.lt k hk).1),fun _=>hne⟩
    · subst hn0 hc0 hx0;cases A with
      | none =>
        obtain ⟨v',w',hrun,h2,h3,_⟩:=run_append_own (P:=P) w base t ty e i z 1 bytes ht hi hz hsize hby hzs (by omega) (.slice none 0 0) 0 [] (World.ownsRow_nil w base e 1) ⟨b,off,none⟩ m c' news hl hnews h1 hmax hbytes hbase;obtain ⟨A2,c2,rfl,hne⟩:=fin v' w' h2;exact ⟨A2,c2,w',hrun,.inl h2,.inl h3,(Below.refl base w).grown h3 hbase (fun k hk=>by simp [Value.ownBlock] at hk),fun _=>hne⟩
      | some ad =>
        obtain ⟨v',w',hrun,h2,h3⟩:=run_append_arg_grows (P:=P) w t ty e i z 1 bytes ht hi hz hsize hby hzs (by omega) ad 0 0 [] rfl (fun j u hu=>by simp at hu) ⟨b,off,none⟩ m c' news hl hnews (by omega) hmax hbytes;have h2':=ownsRow_base h2 hbase;obtain ⟨A2,c2,rfl,hne⟩:=fin v' w' h2';exact ⟨A2,c2,w',hrun,.inl h2',.inl h3,(Below.refl base w).grown h3 hbase (fun k hk=>by cases hk),fun _=>hne⟩
end
theorem wpList_append_ap {P:Program} (w:World) {ops:Array Oper} {rest:List Oper} {o:Oper} {a:Act} {Q:Exit→Act→World→Prop}
    (hg:o.guard=none) (s x:Operand) (t:TypeId) (hop:o.op=Op.call { callee:=Callee.builtin Builtin.append,args:=#[s,x],argTypes:=#[t,t] })
    (base:Nat) (e:TypeId) (i:TypeInfo) (z:Value) (bytes:Nat) (h1:P.underlying t=some (.slice e)) (h2:P.info? e=some i) (h3:i.zero=some z) (h4:i.size=1) (h5:i.bytes=bytes) (h6:z.cells.size=1)
    (A:Option Addr) (n c:Nat) (xs:List Value) (hs:a.eval s = .slice A n c) (hap:Ap w base e A n c xs)
    (A':Option Addr) (m c':Nat) (news:List Value) (hx:a.eval x = .slice A' m c') (hr:Rd w A' m c' news) (h1c:∀ u∈news,u.oneCell'=true)
    (hbytes:(n+m)*bytes≤140737488355328) (hmax:n+m≤maxLen) (hbase:base≤w.heap.size)
    (hK:∀ A2 c2 w',Ap w' base e A2 (n+m) c2 (xs++news)→Kept w base e A n c xs w'→Below base w w'→(0<m→A2 ≠ none)→wpList P ops Q rest (a.put o.dst (.slice A2 (n+m) c2)) w') :
    wpList P ops Q (o::rest) a w:=by
  refine wpList_plain hg fun K hK'=>?_;obtain ⟨A2,c2,w',hrun,r1,r2,r3,r4⟩:=run_append_ap (P:=P) w base t o.type e i z bytes h1 h2 h3 h4 h5 h6 A n c xs hap A' m c' news hr h1c hbytes hmax hbase;unfold Oper.wp;simp [execOp,hop,resolve,invoke,builtin,hs,hx,hrun,Result.andThen];exact hK' _ _ (hK A2 c2 w' r1 r2 r3 r4)
def RetSE (T:TypeId) (n:Nat) (xs:List Value) (err:Int) (w:World) (e:Ending) (w':World):Prop :=
  ∃ A c,e = .returned (.tuple #[.slice A n c,.int .i64 err])∧Ap w' w.heap.size T A n c xs∧Below w.heap.size w w'
def RetS (T:TypeId) (n:Nat) (xs:List Value) (w:World) (e:Ending) (w':World):Prop :=
  ∃ A c,e = .returned (.slice A n c)∧Ap w' w.heap.size T A n c xs∧Below w.heap.size w w'
theorem RetSE.nil_ (T:TypeId) (err:Int) (w:World):RetSE T 0 [] err w (.returned (.tuple #[.slice none 0 0,.int .i64 err])) w :=
  ⟨none,0,rfl,Ap.nil_ _ _ _,Below.refl _ _⟩
theorem own_cell {w:World} {base:Nat} {e:TypeId} {g n cap:Nat} {xs:List Value} (h:w.ownsRow base e 1 (.slice (some ⟨g,0,none⟩) n cap) n xs) {j:Nat} (hj:j<n) :
    (∃ u,w.cell? ⟨g,j,none⟩=some u)∧w.frozen? ⟨g,j,none⟩=false∧g<w.heap.size:=by
  refine ⟨?_,h.frozenAt j,(h.lt g rfl).2⟩;have hl:j<xs.length:=by rw [h.1];omega
  exact ⟨xs[j],by rw [h.cellAt j (by omega)];exact List.getElem?_eq_getElem hl⟩
def p256 (s:Nat):Nat:=256 ^ s
theorem p256_pos (s:Nat):0<p256 s:=Nat.pow_pos (by omega)
theorem p256_succ (s:Nat):p256 (s+1)=p256 s*256:=Nat.pow_succ 256 s
theorem two_pow_8 (s:Nat):(2:Int) ^ (8*s)=((p256 s:Nat):Int):=by
  unfold p256;rw [Int.pow_mul];simp
theorem shr_zero (n:Int) (s:Nat) (h0:0≤n) (h:n<(p256 s:Int)):(n / 2 ^ (8*s) != 0)=false:=by
  rw [two_pow_8,Int.ediv_eq_zero_of_lt h0 h];rfl
theorem shr_pos (n:Int) (s:Nat) (h:(p256 s:Int)≤n):(n / 2 ^ (8*s) != 0)=true:=by
  rw [two_pow_8,bne_iff_ne];have hp:(0:Int)<(p256 s:Int):=by exact_mod_cast p256_pos s
  have:=Int.le_ediv_of_mul_le (a:=1) hp (b:=n) (by omega);omega
def beS (n:Nat):Nat→List UInt8
  | 0=>[]
  | i+1=>UInt8.ofNat (n / p256 i)::beS n i
theorem length_beS (n:Nat):∀ i,(beS n i).length=i
  | 0=>rfl
  | i+1=>by simp [beS,length_beS n i]
theorem bv_ofNat (x:Nat):bv (UInt8.ofNat x) = .int .u8 ((x % 256:Nat):Int):=by
  unfold bv;rw [UInt8.toNat_ofNat']
theorem set_fill {z u:Value} (L:List Value) (m:Nat):(List.replicate (m+1) z++L).set m u=List.replicate m z++u::L:=by
  induction m with
  | zero=>rfl
  | succ m ih=>rw [List.replicate_succ,List.cons_append,List.set_cons_succ,ih];rfl
theorem made_bytes (n:Nat):(madeCells (Value.int .u8 0).cells (n*1)).toList=List.replicate n (.int .u8 0):=by
  rw [Nat.mul_one];exact toList_madeCells_one _ _
theorem be_shr (n k:Nat):((n:Int) / 2 ^ (8*k) % 256)=((n / p256 k % 256:Nat):Int):=by
  rw [two_pow_8];simp
theorem be_step {w:World} {base g:Nat} {T:TypeId} {s k n:Nat} {u:Value} (hk:k<s) (h:w.ownsRow base T 1 (.slice (some ⟨g,0,none⟩) s s) s (List.replicate (s-k) (.int .u8 0)++bvs (beS n k)))
    (hu:u = .int .u8 ((n / p256 k % 256:Nat):Int)) :
    (w.setCell ⟨g,s-1-k,none⟩ u).ownsRow base T 1 (.slice (some ⟨g,0,none⟩) s s) s (List.replicate (s-(k+1)) (.int .u8 0)++bvs (beS n (k+1))):=by
  have h1:=(h.stored (s-1-k) u).1;have e:s-k=(s-1-k)+1:=by omega
  rw [e,set_fill] at h1;have e2:bvs (beS n (k+1))=u::bvs (beS n k):=by
    rw [hu];show bv _::bvs _=_;rw [bv_ofNat]
  have e3:s-(k+1)=s-1-k:=by omega
  rw [e2,e3];exact h1
theorem RetSE.own {T:TypeId} {n g c:Nat} {xs:List Value} {err:Int} {w w':World} (h:w'.ownsRow w.heap.size T 1 (.slice (some ⟨g,0,none⟩) n c) n xs) (hb:Below w.heap.size w w') :
    RetSE T n xs err w (.returned (.tuple #[.slice (some ⟨g,0,none⟩) n c,.int .i64 err])) w':=⟨_,_,rfl,.inl h,hb⟩
theorem ne_false {x y:UInt8} (h:x=y):((x.toNat:Int) != (y.toNat:Int))=false:=by subst h;simp
theorem ne_true {x y:UInt8} (h:x ≠ y):((x.toNat:Int) != (y.toNat:Int))=true:=by
  rw [bne_iff_ne];intro e;exact h (UInt8.toNat_inj.1 (by omega))
theorem take_eq_step {α:Type} {xs ys:List α} {k:Nat} (h:xs.take k=ys.take k) (hx:k<xs.length) (hy:k<ys.length) (e:xs[k]=ys[k]):xs.take (k+1)=ys.take (k+1):=by
  rw [List.take_succ_eq_append_getElem hx,List.take_succ_eq_append_getElem hy,h,e]
theorem ne_of_get {α:Type} {xs ys:List α} {k:Nat} (hx:k<xs.length) (hy:k<ys.length) (e:xs[k] ≠ ys[k]):xs ≠ ys:=by
  rintro rfl;exact e rfl
def RetQ (v:Value) (w:World) (e:Ending) (w':World):Prop:=e = .returned v ∧ ∃ m,w'=w.drewN m
theorem below_drewN {B:Nat} {a w:World} (h:Below B a w) (n:Nat):Below B a (w.drewN n):=⟨h.os,h.tape,h.output,h.size,h.block⟩
theorem RetQ.below {v:Value} {w w':World} {e:Ending} (h:RetQ v w e w'):e = .returned v∧Below w.heap.size w w':=by
  obtain ⟨he,m,rfl⟩:=h;exact ⟨he,below_drewN (Below.refl _ _) m⟩
def strB (bs:List UInt8):ByteArray:=⟨bs.toArray⟩
theorem strB_size (bs:List UInt8):(strB bs).size=bs.length:=by simp [strB,ByteArray.size]
theorem strB_list (bs:List UInt8):(strB bs).data.toList=bs:=rfl
theorem bvs_ints (bs:List UInt8):bvs bs=(bs.map fun b=>(b.toNat:Int)).map (Value.int .u8):=by simp [bvs,bv]
theorem strB_of_ints (bs:List UInt8):(bs.map fun b=>(b.toNat:Int)).foldl (fun r n=>r.push (UInt8.ofNat n.toNat)) ByteArray.empty=strB bs:=by
  rw [foldl_push_bytes];simp [strB,ByteArray.empty,ByteArray.emptyWithCapacity];show []++_=_;rw [List.nil_append];conv=>rhs;rw [← List.map_id bs]
  apply List.map_congr_left
  intro b _;simp
theorem conv_bytes {P:Program} (w:World) (src dst e:TypeId) (hs:P.underlying src=some (.slice e)) (he:P.underlying e=some (.int .u8)) (hd:P.underlying dst=some .string)
    {A:Option Addr} {n c:Nat} {bs:List UInt8} (h:Rd w A n c (bvs bs)):(convert src dst (.slice A n c)).run P w = .ok (.string (strB bs)) w:=by
  have hl:=h.len;rw [length_bvs] at hl;cases A with
  | none =>
    obtain ⟨rfl,rfl,h0⟩:=h.none_;have:bs=[]:=List.eq_nil_of_length_eq_zero hl;subst this;rw [run_convert_bytes_nil w src e hs he 0 0 dst hd];rfl
  | some ad =>
    rw [run_convert_bytes_string w src dst e _ n c hs he hd];have hload:(loadCells ad n).run P w = .ok ((bs.map fun b=>(b.toNat:Int)).map (Value.int .u8)).toArray w:=by
      have:=run_loadCells_list (P:=P) w ad (bvs bs) (fun j v hj=>by
        have hj':j<n:=by
          have:=(List.getElem?_eq_some_iff.1 hj).1;rw [length_bvs] at this;omega
        obtain ⟨b,off,e1,_,hc⟩:=h.at_ (by omega);injection e1 with e1;subst e1;rw [add_plain];exact hc j v hj)
      rw [length_bvs,hl] at this;rw [this,bvs_ints]
    rw [run_bytesToString w ad n c _ hload,strB_of_ints]
theorem strB_toList (bs:List UInt8):(strB bs).toList=bs:=ByteArray.toList_mk bs
def xorL (a b:List UInt8):List UInt8:=List.zipWith (· ^^^ ·) a b
theorem length_xorL (a b:List UInt8) (h:a.length=b.length):(xorL a b).length=a.length:=by simp [xorL,h]
theorem xor_u8 (x y:UInt8):bits .xor .u8 (x.toNat:Int) (y.toNat:Int)=((x ^^^ y).toNat:Int):=by
  have hx:=x.toNat_lt;have hy:=y.toNat_lt;have e:∀ n:Nat,n<256→(BitVec.ofInt 8 (n:Int)).toNat=n:=fun n hn=>by
    rw [BitVec.ofInt_natCast,BitVec.toNat_ofNat];exact Nat.mod_eq_of_lt (by omega)
  have hz:x.toNat ^^^ y.toNat<2 ^ 8:=Nat.xor_lt_two_pow (by omega) (by omega);show IntKind.u8.wrap ((BitVec.ofInt 8 (x.toNat:Int) ^^^ BitVec.ofInt 8 (y.toNat:Int)).toNat:Int)=_;rw [BitVec.toNat_xor,e _ (by omega),e _ (by omega),IntKind.wrap_u8,UInt8.toNat_xor];omega
theorem xor_step {w:World} {base g:Nat} {T:TypeId} {n k:Nat} {a b:List UInt8} (hk:k<n) (ha:a.length=n) (hb:b.length=n)
    (h:w.ownsRow base T 1 (.slice (some ⟨g,0,none⟩) n n) n (bvs ((xorL a b).take k)++List.replicate (n-k) (.int .u8 0))) :
    (w.setCell ⟨g,k,none⟩ (.int .u8 ((a[k] ^^^ b[k]).toNat:Int))).ownsRow base T 1 (.slice (some ⟨g,0,none⟩) n n) n (bvs ((xorL a b).take (k+1))++List.replicate (n-(k+1)) (.int .u8 0)):=by
  have h1:=(h.stored k (.int .u8 ((a[k] ^^^ b[k]).toNat:Int))).1;have hl:(xorL a b).length=n:=by rw [length_xorL _ _ (by omega),ha]
  have e1:(bvs ((xorL a b).take k)).length=k:=by rw [length_bvs,List.length_take];omega
  have e:n-k=(n-(k+1))+1:=by omega
  rw [List.set_append_right _ _ (by omega),e1,e,List.replicate_succ,Nat.sub_self,List.set_cons_zero] at h1;have e3:bvs ((xorL a b).take (k+1))=bvs ((xorL a b).take k)++[.int .u8 ((a[k] ^^^ b[k]).toNat:Int)]:=by
    rw [List.take_succ_eq_append_getElem (by omega),bvs_append];simp [bvs,bv,xorL]
  rw [e3,List.append_assoc];exact h1
theorem Ap.empty (w:World) (base:Nat) (T:TypeId) (A:Option Addr):Ap w base T A 0 0 [] :=
  .inr ⟨rfl,rfl,rfl⟩
theorem Ap.lit (w:World) (base:Nat) (T:TypeId) (cs:Array Value) (hb:base≤w.heap.size) (hm:cs.size≤maxLen):Ap (w.alloc (.cells cs T)) base T (some ⟨w.heap.size,0,none⟩) cs.size cs.size cs.toList :=
  .inl (World.ownsRow_lit w cs cs.size hb hm (by omega))
theorem Rd.lit (w:World) (T:TypeId) (cs:Array Value) (hm:cs.size≤maxLen):Rd (w.alloc (.cells cs T)) (some ⟨w.heap.size,0,none⟩) cs.size cs.size cs.toList :=
  (Ap.lit w w.heap.size T cs (Nat.le_refl _) hm).rd
theorem RetS.ap {T:TypeId} {A:Option Addr} {n c:Nat} {xs:List Value} {w w':World} (h:Ap w' w.heap.size T A n c xs) (hb:Below w.heap.size w w'):RetS T n xs w (.returned (.slice A n c)) w':=⟨_,_,rfl,h,hb⟩
theorem RetSE.ap {T:TypeId} {A:Option Addr} {n c:Nat} {xs:List Value} {err:Int} {w w':World} (h:Ap w' w.heap.size T A n c xs) (hb:Below w.heap.size w w'):RetSE T n xs err w (.returned (.tuple #[.slice A n c,.int .i64 err])) w':=⟨_,_,rfl,h,hb⟩
def Slv (T:TypeId) (w:World) (base:Nat) (v:Value) (bs:List UInt8):Prop:=∃ A c,v = .slice A bs.length c∧Ap w base T A bs.length c (bvs bs)
def SlvR (w:World) (v:Value) (bs:List UInt8):Prop:=∃ A c,v = .slice A bs.length c∧Rd w A bs.length c (bvs bs)
theorem Slv.rd {T:TypeId} {w:World} {base:Nat} {v:Value} {bs:List UInt8} (h:Slv T w base v bs):SlvR w v bs:=by
  obtain ⟨A,c,rfl,ha⟩:=h;exact ⟨A,c,rfl,ha.rd⟩
def All2 {α β:Type} (R:α→β→Prop) (l:List α) (m:List β):Prop:=l.length=m.length ∧ ∀ (j:Nat) (a:α) (b:β),l[j]? = some a→m[j]? = some b→R a b
theorem All2.nil_ {α β:Type} (R:α→β→Prop):All2 R [] []:=⟨rfl,fun j a b h=>by simp at h⟩
theorem All2.imp {α β:Type} {R S:α→β→Prop} {l:List α} {m:List β} (h:All2 R l m) (hRS:∀ a b,R a b→S a b):All2 S l m:=⟨h.1,fun j a b ha hb=>hRS _ _ (h.2 j a b ha hb)⟩
theorem All2.get {α β:Type} {R:α→β→Prop} {l:List α} {m:List β} (h:All2 R l m) {j:Nat} (hj:j<m.length):∃ a,l[j]? = some a∧R a m[j]:=by
  have hl:j<l.length:=by rw [h.1];exact hj
  exact ⟨l[j],List.getElem?_eq_getElem hl,h.2 j _ _ (List.getElem?_eq_getElem hl) (List.getElem?_eq_getElem hj)⟩
theorem Ap.alloc {w:World} {base:Nat} {e:TypeId} {A:Option Addr} {n c:Nat} {xs:List Value} (h:Ap w base e A n c xs) (o:Obj):Ap (w.alloc o) base e A n c xs:=h.below ((Below.refl _ _).alloc (Nat.le_refl _) o)
theorem Slv.below {w w':World} {T:TypeId} {base:Nat} {v:Value} {bs:List UInt8} (h:Slv T w base v bs) (hb:Below w.heap.size w w'):Slv T w' base v bs:=by
  obtain ⟨A,c,rfl,ha⟩:=h;exact ⟨A,c,rfl,ha.below hb⟩
theorem Slv.mk {w:World} {T:TypeId} {base:Nat} {A:Option Addr} {q c:Nat} {bs:List UInt8} (hq:bs.length=q) (ha:Ap w base T A q c (bvs bs)):Slv T w base (.slice A q c) bs:=by
  subst hq;exact ⟨A,c,rfl,ha⟩
theorem own_u8 (x:Nat) (hx:x<256):Value.int .u8 (x:Int)=bv (UInt8.ofNat x):=by
  rw [bv_ofNat,Nat.mod_eq_of_lt hx]
end Go.TravelBase
namespace Go.Proofs.YtjjkfpbkmhfckaaGreatDoor
open Go.ChangeShapes Go.WideShapes Go.ChangeAt Go.RowKit Go.TravelBase
theorem own_:ownKnob Tryz.prog.godebug=none:=by kernel_rfl
theorem laidOut_:laidOutB Tryz.prog=true:=by kernel_rfl
section
variable {H:Type} {enc:TypeId × Value→H} {P:Program} {W:World}
theorem trod_below {t:TypeId} {v:Value} {d:DataW H} {p:List MemPlace} (h:DataW.Trod enc P W 0 (fun _=>true) true t v d p):∀ x∈p,x.block<W.heap.size:=by
  obtain ⟨m,hm⟩:=h;exact DataW.trod_lt m _ _ _ hm
theorem byte_of_wf {z:Int} (h:(Lit.int .u8 z).wf=true):Value.int .u8 z=bv (UInt8.ofNat z.toNat):=by
  have hb:=bounds_u8 h;obtain ⟨n,rfl⟩:=Int.eq_ofNat_of_zero_le hb.1;rw [Int.toNat_natCast,← own_u8 n (by omega)]
theorem opn_ints {t e:TypeId} {k:IntKind} {A:Option Addr} {n c:Nat} {d:DataW H} {p:List MemPlace} (ht:P.underlying t=some (.slice e)) (he:P.underlying e=some (.int k)) (hc:P.cellsOf e=1)
    (h:DataW.Trod enc P W 0 (fun _=>true) true t (.slice A n c) d p) :
    ∃ zs:List Int,Rd W A n c (zs.map (Value.int k))∧(∀ z∈zs,(Lit.int k z).wf=true)∧(d = .nil∧c=0 ∨ ∃ es sp,d = .slice es sp∧es.length=n∧es.length+sp.length=c):=by
  have hlt:=trod_below h;obtain ⟨fuel,hf⟩:=h;rcases open_ints ht he hc hf with ⟨hcs,hx⟩ | ⟨x,l,c',zs,hcs,_,hl,hm,hz,hx,hcell,hwz⟩
  · simp [Value.cells] at hcs;obtain ⟨rfl,rfl,rfl⟩:=hcs;simp only [Prod.mk.injEq] at hx;exact ⟨[],Rd.nil_ W,fun z hz=>by simp at hz,.inl ⟨hx.1,rfl⟩⟩
  · simp [Value.cells] at hcs;obtain ⟨rfl,rfl,rfl⟩:=hcs;simp only [Prod.mk.injEq] at hx;simp only [if_true] at hz;refine ⟨zs.take n,⟨by simp;omega,hl,hm,(fun e=>by cases e),fun hn=>?_⟩,fun z hzz=>hwz z (List.mem_of_mem_take hzz),.inr ⟨_,_,hx.1,by simp [lits];omega,by simp [lits];omega⟩⟩;have hc0:=hcell 0 (by omega);obtain ⟨b,off,spot⟩:=x;have hspot:spot=none:=by simpa [Addr.add] using World.cell?_spot hc0
    subst hspot;refine ⟨b,off,rfl,World.block_lt_of_cell? W _ (by rw [TravelBase.add_plain] at hc0;exact hc0),fun j u hu=>?_⟩;have hj:j<n:=by
      have:=(List.getElem?_eq_some_iff.1 hu).1;simp at this;omega
    have h1:=hcell j (by omega);rw [TravelBase.add_plain] at h1;rw [h1,← hu];simp [List.getElem?_take,hj,List.getD,show j<zs.length by omega]
theorem opn_bytes {t e:TypeId} {A:Option Addr} {n c:Nat} {d:DataW H} {p:List MemPlace} (ht:P.underlying t=some (.slice e)) (he:P.underlying e=some (.int .u8)) (hc:P.cellsOf e=1)
    (h:DataW.Trod enc P W 0 (fun _=>true) true t (.slice A n c) d p) :
    ∃ bs:List UInt8,Rd W A n c (bvs bs)∧(d = .nil∧c=0 ∨ ∃ es sp,d = .slice es sp∧es.length=n∧es.length+sp.length=c):=by
  obtain ⟨zs,hr,hw,hd⟩:=opn_ints ht he hc h;refine ⟨zs.map fun z=>UInt8.ofNat z.toNat,?_,hd⟩;have e:zs.map (Value.int .u8)=bvs (zs.map fun z=>UInt8.ofNat z.toNat):=by
    rw [bvs,List.map_map];exact List.map_congr_left fun z hz=>byte_of_wf (hw z hz)
  rwa [e] at hr
end
end Go.Proofs.YtjjkfpbkmhfckaaGreatDoor
namespace Go.Proofs.YtjjkfpbkmhfckaaGreatDoor
open Go.RowKit Go.TravelBase
def numS (bs:List UInt8):Nat:=bs.foldl (fun n b=>n*256+b.toNat) 0
theorem numS_snoc (bs:List UInt8) (b:UInt8):numS (bs++[b])=numS bs*256+b.toNat:=by simp [numS]
theorem numS_lt (bs:List UInt8):numS bs<256 ^ bs.length:=by
  rw [← List.reverse_reverse bs];generalize bs.reverse=l;induction l with
  | nil=>simp [numS]
  | cons x l ih =>
    rw [List.reverse_cons,numS_snoc,List.length_append,List.length_singleton,Nat.pow_succ];have:=x.toNat_lt;have h2:numS l.reverse*256+256≤256 ^ l.reverse.length*256:=by
      have:=Nat.mul_le_mul_right 256 (Nat.succ_le_of_lt ih);omega
    omega
def numV (bs:List UInt8):Int:=if 7<bs.length then 0 else (numS bs:Int)
def numE (bs:List UInt8):Int:=if 7<bs.length then 2 else 0
theorem number_any (A:Option Addr) (n c:Nat) (bs:List UInt8) (w:World) (h:Rd w A n c (bvs bs)) :
    Calls Tryz.prog 101 #[.slice A n c] w fun e w'=>e = .returned (.tuple #[.int .i64 (numV bs),.int .i64 (numE bs)])∧w=w':=by
  have hn:=h.len;rw [length_bvs] at hn;have hc:=h.cap;have hm:=h.max;by_cases h7:7<n
  · have h7':(7:Int)<(n:Int):=by omega
    go_enter Tryz.func101,Tryz.ntmps101
    go_wp2
    go_ret2
    exact ⟨by simp [numV,numE,hn,h7],rfl⟩
  · have h7':¬ (7:Int)<(n:Int):=by omega
    go_enter Tryz.func101,Tryz.ntmps101
    go_wp2
    go_loop [4,12] (fun v i=>∃ k:Nat,k≤n∧i = .int .i64 k∧v = .int .i64 (numS (bs.take k))) (fun _ i=>n-(intOf i).toNat)
    case atStart=>exact ⟨0,Nat.zero_le _,rfl,rfl⟩
    case round =>
      obtain ⟨k,hk,rfl,rfl⟩:=hrel;by_cases hlt:k<n
      · obtain ⟨b,off,rfl,hb,hcell⟩:=h.at_ (by omega);have hx:=hcell k (bv bs[k]) (bvs_get (List.getElem?_eq_getElem (by omega)));unfold bv at hx;have HS:Hid (numS (bs.take (k+1))=numS (bs.take k)*256+bs[k].toNat):=by
          rw [List.take_succ_eq_append_getElem (by omega),numS_snoc];rfl
        have hl:=numS_lt (bs.take k);have hl2:numS (bs.take k)<281474976710656:=by
          refine Nat.lt_of_lt_of_le hl ?_;rw [List.length_take,Nat.min_eq_left (by omega)];exact (Nat.pow_le_pow_right (by omega) (show k≤6 by omega):256 ^ k≤256 ^ 6)
        have hb2:=(bs[k]).toNat_lt;clear hl hcell h;go_wp2
        go_round
        case rel=>exact ⟨k+1,by omega,by go_num,by rw [HS.out,or_byte _ _ hl2 hb2]⟩
        case measure=>simp [intOf];omega
      · go_wp2
        go_ret2
        obtain rfl:k=n:=by omega
        exact ⟨by simp [numV,numE,hn,h7,List.take_of_length_le (Nat.le_of_eq hn)],rfl⟩
theorem info_u8:(Tryz.prog.info? 5).map (fun i=>(i.zero,i.size,i.bytes))=some (some (.int .u8 0),1,1):=by kernel_rfl
def octE (n size:Int):Int:=if size<0∨7<size then 2 else if n<0∨(p256 size.toNat:Int)≤n then 3 else 0
def octL (n size:Int):List UInt8:=if octE n size=0 then beS n.toNat size.toNat else []
theorem octets_any (n size:Int) (w:World) (hn : -9223372036854775808≤n∧n≤9223372036854775807) (hs : -9223372036854775808≤size∧size≤9223372036854775807) :
    Calls Tryz.prog 36 #[.int .i64 n,.int .i64 size] w (RetSE 5 (octL n size).length (bvs (octL n size)) (octE n size) w):=by
  by_cases h1:size<0∨7<size
  · have e1:octE n size=2:=by simp [octE,h1]
    have e2:octL n size=[]:=by simp [octL,e1]
    rw [e1,e2];clear e1 e2;rcases h1 with h1 | h1
    · go_enter Tryz.func36,Tryz.ntmps36
      go_wp2
      go_ret2
      exact RetSE.nil_ _ _ _
    · have h0:¬ size<0:=by omega
      go_enter Tryz.func36,Tryz.ntmps36
      go_wp2
      go_ret2
      exact RetSE.nil_ _ _ _
  · have h2:¬ size<0:=by omega
    have h3:¬ 7<size:=by omega
    obtain ⟨s,rfl⟩:=Int.eq_ofNat_of_zero_le (show 0≤size by omega);by_cases h4:n<0
    · have e1:octE n s=3:=by simp only [octE];rw [if_neg (by omega),if_pos (by omega)]
      have e2:octL n s=[]:=by simp [octL,e1]
      rw [e1,e2];clear e1 e2;go_enter Tryz.func36,Tryz.ntmps36
      go_wp2
      go_ret2
      exact RetSE.nil_ _ _ _
    · obtain ⟨n,rfl⟩:=Int.eq_ofNat_of_zero_le (show 0≤n by omega);by_cases h5:n<p256 s
      · have e1:octE n s=0:=by simp only [octE];rw [if_neg (by omega),if_neg (by simp only [Int.toNat_natCast];omega)]
        have e2:octL n s=beS n s:=by simp [octL,e1]
        rw [e1,e2,length_beS];clear e1 e2;have g:=shr_zero n s (by omega) (by omega);obtain ⟨i0,hi,hz0,hz1,hz2⟩:=info_parts info_u8;go_enter Tryz.func36,Tryz.ntmps36
        go_wp2_with (at_make;refine wpList_make_full _ rfl _ _ 23 rfl w.heap.size 5 i0 _ 1 Tryz.underlying23 hi hz0 hz1 _ _ _ _ s rfl rfl rfl rfl (by rw [hz2];omega) (by unfold maxLen;omega) (Nat.le_refl _) ?_;intro w1 hown hgrow)
        rw [made_bytes] at hown;have hb1:=(Below.refl w.heap.size w).grown hgrow (Nat.le_refl _) (fun k hk=>by cases hk);clear g hgrow;go_loopw [26] (fun i wr=>∃ k:Nat,k≤s∧i = .int .i64 k∧wr.ownsRow w.heap.size 5 1 (.slice (some ⟨w.heap.size,0,none⟩) s s) s (List.replicate (s-k) (.int .u8 0)++bvs (beS n k))∧Below w.heap.size w wr)
          (fun i _=>s-(intOf i).toNat)
        case atStart=>exact ⟨0,Nat.zero_le _,rfl,by simpa [beS,bvs] using hown,hb1⟩
        case round =>
          clear hown hb1;obtain ⟨k,hk,rfl,hown,hb⟩:=hrel;by_cases hlt:k<s
          · obtain ⟨⟨u,hu⟩,hf,hlw⟩:=own_cell hown (j:=s-1-k) (by omega);go_wp2
            go_roundw
            case rel=>exact ⟨k+1,by omega,by go_num,be_step hlt hown (by rw [be_shr]),hb.setCell (Nat.le_refl _) _⟩
            case measure=>simp [intOf];omega
          · obtain rfl:k=s:=by omega
            go_wp2
            go_ret2
            exact RetSE.own (by simpa using hown) hb
      · have e1:octE n s=3:=by simp only [octE];rw [if_neg (by omega),if_pos (by simp only [Int.toNat_natCast];omega)]
        have e2:octL n s=[]:=by simp [octL,e1]
        rw [e1,e2];clear e1 e2;have g:=shr_pos n s (by omega);go_enter Tryz.func36,Tryz.ntmps36
        go_wp2
        go_ret2
        exact RetSE.nil_ _ _ _
theorem rsame_any (A A':Option Addr) (n c m c':Nat) (xs ys:List UInt8) (w:World) (h:Rd w A n c (bvs xs)) (h':Rd w A' m c' (bvs ys)) :
    Calls Tryz.prog 16 #[.slice A n c,.slice A' m c'] w (RetQ (.bool (decide (xs=ys))) w):=by
  have hn:=h.len;have hm:=h'.len;rw [length_bvs] at hn hm;have hc:=h.cap;have hx:=h.max;have hc':=h'.cap;have hx':=h'.max;by_cases hnm:n=m
  · obtain rfl:m=n:=hnm.symm;go_enter Tryz.func16,Tryz.ntmps16
    go_wp2
    go_loopw [5] (fun i wr=>∃ k:Nat,k≤m∧i = .int .i64 k∧xs.take k=ys.take k ∧ ∃ q,wr=w.drewN q) (fun i _=>m-(intOf i).toNat)
    case atStart=>exact ⟨0,Nat.zero_le _,rfl,rfl,0,rfl⟩
    case round =>
      obtain ⟨k,hk,rfl,htk,q,rfl⟩:=hrel;have HT:=Lib.hid htk;clear htk;by_cases hlt:k<m
      · obtain ⟨b,off,rfl,hb,hcell⟩:=h.at_ (by omega);obtain ⟨b',off',rfl,hb',hcell'⟩:=h'.at_ (by omega);have hx:=hcell k (bv xs[k]) (bvs_get (List.getElem?_eq_getElem (by omega)));have hy:=hcell' k (bv ys[k]) (bvs_get (List.getElem?_eq_getElem (by omega)));unfold bv at hx hy;clear hcell hcell' h h';have hi0:(0:Int)≤(k:Int):=by omega
        have hi1:(k:Int)<(m:Int):=by omega
        by_cases he:xs[k]=ys[k]
        · have g:=ne_false he;have HE:=Lib.hid he;clear he;go_wp2
          go_quiet (fail)
          go_wp2
          go_roundw
          case rel=>exact ⟨k+1,by omega,by go_num,take_eq_step HT.out (by omega) (by omega) HE.out,q+nq,rfl⟩
          case measure=>simp [intOf];omega
        · have g:=ne_true he;have HE:=Lib.hid he;clear he;go_wp2
          go_quiet (fail)
          go_wp2
          go_ret
          have:=ne_of_get _ _ HE.out;exact ⟨by simp [this],q+nq,World.drewN_drewN _ _ _⟩
      · obtain rfl:k=m:=by omega
        go_wp2
        go_ret
        have e:xs=ys:=by
          have:=HT.out;rwa [List.take_of_length_le (by omega),List.take_of_length_le (by omega)] at this
        exact ⟨by simp [e],q,rfl⟩
  · have hne:xs ≠ ys:=by rintro rfl;omega
    have g:((n:Int) != (m:Int))=true:=by rw [bne_iff_ne];omega
    go_enter Tryz.func16,Tryz.ntmps16
    go_wp2
    go_ret
    exact ⟨by simp [hne],0,rfl⟩
theorem bequal_any (A A':Option Addr) (n c m c':Nat) (xs ys:List UInt8) (w:World) (h:Rd w A n c (bvs xs)) (h':Rd w A' m c' (bvs ys)) :
    Calls Tryz.prog 52 #[.slice A n c,.slice A' m c'] w fun e w'=>e = .returned (.bool (decide (xs=ys)))∧w=w':=by
  have k1:=conv_bytes (P:=Tryz.prog) w 23 9 5 Tryz.underlying23 Tryz.underlying5 Tryz.underlying9 h;have k2:=conv_bytes (P:=Tryz.prog) w 23 9 5 Tryz.underlying23 Tryz.underlying5 Tryz.underlying9 h';clear h h';go_enter Tryz.func52,Tryz.ntmps52
  go_wp2
  go_ret
  exact ⟨by rw [strB_toList,strB_toList];by_cases he:xs=ys <;> simp [he],rfl⟩
theorem same_any (A A':Option Addr) (n c m c':Nat) (xs ys:List UInt8) (w:World) (h:Rd w A n c (bvs xs)) (h':Rd w A' m c' (bvs ys)) :
    Calls Tryz.prog 145 #[.slice A n c,.slice A' m c'] w fun e w'=>e = .returned (.bool (decide (xs=ys)))∧w=w':=by
  go_enter Tryz.func145,Tryz.ntmps145
  go_wp2_with (go_at_call 52;refine (bequal_any _ _ _ _ _ _ xs ys _ h h').mono ?_;rintro e w' ⟨rfl,rfl⟩)
  go_ret
  exact ⟨rfl,rfl⟩
def xorR (a b:List UInt8):List UInt8:=if a.length=b.length then xorL a b else []
theorem xor_any (A A':Option Addr) (n c m c':Nat) (xs ys:List UInt8) (w:World) (h:Rd w A n c (bvs xs)) (h':Rd w A' m c' (bvs ys)) (hr:n≤140737488355328) :
    Calls Tryz.prog 100 #[.slice A n c,.slice A' m c'] w (RetSE 5 (xorR xs ys).length (bvs (xorR xs ys)) (if xs.length=ys.length then 0 else 2) w):=by
  have hn:=h.len;have hm:=h'.len;rw [length_bvs] at hn hm;have hc:=h.cap;have hx:=h.max;have hc':=h'.cap;have hx':=h'.max;by_cases hnm:n=m
  · obtain rfl:m=n:=hnm.symm;have e1:xorR xs ys=xorL xs ys:=by simp [xorR,hn,hm]
    rw [e1,if_pos (by omega),length_xorL _ _ (by omega),hn];clear e1;obtain ⟨i0,hi,hz0,hz1,hz2⟩:=info_parts info_u8;go_enter Tryz.func100,Tryz.ntmps100
    go_wp2_with (at_make;refine wpList_make_full _ rfl _ _ 23 rfl w.heap.size 5 i0 _ 1 Tryz.underlying23 hi hz0 hz1 _ _ _ _ m rfl rfl rfl rfl (by rw [hz2];omega) (by unfold maxLen;omega) (Nat.le_refl _) ?_;intro w1 hown hgrow)
    rw [made_bytes] at hown;have hb1:=(Below.refl w.heap.size w).grown hgrow (Nat.le_refl _) (fun k hk=>by cases hk);clear hgrow;go_loopw [18] (fun i wr=>∃ k:Nat,k≤m∧i = .int .i64 k∧wr.ownsRow w.heap.size 5 1 (.slice (some ⟨w.heap.size,0,none⟩) m m) m (bvs ((xorL xs ys).take k)++List.replicate (m-k) (.int .u8 0))∧Below w.heap.size w wr)
      (fun i _=>m-(intOf i).toNat)
    case atStart=>exact ⟨0,Nat.zero_le _,rfl,by simpa [bvs] using hown,hb1⟩
    case round =>
      clear hown hb1;obtain ⟨k,hk,rfl,hown,hb⟩:=hrel;by_cases hlt:k<m
      · obtain ⟨⟨u,hu⟩,hf,hlw⟩:=own_cell hown (j:=k) hlt;have hr1:=h.below hb;have hr2:=h'.below hb;obtain ⟨b,off,rfl,hbl,hcell⟩:=hr1.at_ (by omega);obtain ⟨b',off',rfl,hbl',hcell'⟩:=hr2.at_ (by omega);have hx:=hcell k (bv xs[k]) (bvs_get (List.getElem?_eq_getElem (by omega)));have hy:=hcell' k (bv ys[k]) (bvs_get (List.getElem?_eq_getElem (by omega)));unfold bv at hx hy;clear hcell hcell' h h' hr1 hr2;have hi0:(0:Int)≤(k:Int):=by omega
        have hi1:(k:Int)<(m:Int):=by omega
        go_wp2
        go_region
        go_wp2
        go_roundw
        case rel=>exact ⟨k+1,by omega,by go_num,by rw [xor_u8];exact (xor_step hlt hn hm hown).drew,(hb.setCell (Nat.le_refl _) _).drew⟩
        case measure=>simp [intOf];omega
      · obtain rfl:k=m:=by omega
        go_wp2
        go_ret2
        have e:(xorL xs ys).take k=xorL xs ys:=List.take_of_length_le (by rw [length_xorL _ _ (by omega)];omega);exact RetSE.own (by simpa [e] using hown) hb
  · have e1:xorR xs ys=[]:=by simp [xorR];omega
    rw [e1,if_neg (by omega)];have g:((n:Int) != (m:Int))=true:=by rw [bne_iff_ne];omega
    go_enter Tryz.func100,Tryz.ntmps100
    go_wp2
    go_ret2
    exact RetSE.nil_ _ _ _
theorem SlvR.below {w w':World} {v:Value} {bs:List UInt8} (h:SlvR w v bs) (hb:Below w.heap.size w w'):SlvR w' v bs:=by
  obtain ⟨A,c,rfl,hr⟩:=h;exact ⟨A,c,rfl,hr.below hb⟩
end Go.Proofs.YtjjkfpbkmhfckaaGreatDoor
namespace Go.Proofs.YtjjkfpbkmhfckaaGreatDoor
def dbl (b:UInt8):UInt8:=if b &&& 128 != 0 then (b <<< 1) ^^^ 27 else b <<< 1
def mulF:Nat→UInt8→UInt8→UInt8→UInt8
  | 0,o,_,_=>o
  | n+1,o,a,b=>if b=0 then o else mulF n (if b &&& 1=1 then o ^^^ a else o) (dbl a) (b >>> 1)
def mulB (a b:UInt8):UInt8:=mulF 8 0 a b
theorem mulF_zero:∀ (n:Nat) (o a:UInt8),mulF n o a 0=o
  | 0,_,_=>rfl
  | n+1,o,a=>if_pos rfl
theorem msb_two (a:UInt8):a &&& 128=0∨a &&& 128=128:=by
  have key:∀ a:Fin 256,UInt8.ofNat a.val &&& 128=0∨UInt8.ofNat a.val &&& 128=128:=by decide +kernel
  have:=key ⟨a.toNat,a.toNat_lt⟩;simpa using this
theorem dbl_xor (a b:UInt8):dbl (a ^^^ b)=dbl a ^^^ dbl b:=by
  have e1:(a ^^^ b) &&& 128=(a &&& 128) ^^^ (b &&& 128):=by
    apply UInt8.toBitVec_inj.1
    apply BitVec.eq_of_getLsbD_eq
    intro i hi;simp only [UInt8.toBitVec_and,UInt8.toBitVec_xor,BitVec.getLsbD_and,BitVec.getLsbD_xor];exact Bool.and_xor_distrib_right ..
  have e2:(a ^^^ b) <<< 1=(a <<< 1) ^^^ (b <<< 1):=by
    apply UInt8.toBitVec_inj.1
    simp [BitVec.shiftLeft_xor_distrib]
  unfold dbl;rw [e1,e2];rcases msb_two a with h1 | h1 <;> rcases msb_two b with h2 | h2 <;> rw [h1,h2]
  · rfl
  · show (a <<< 1) ^^^ (b <<< 1) ^^^ (27:UInt8)=(a <<< 1) ^^^ ((b <<< 1) ^^^ (27:UInt8));rw [UInt8.xor_assoc]
  · show (a <<< 1) ^^^ (b <<< 1) ^^^ (27:UInt8)=((a <<< 1) ^^^ (27:UInt8)) ^^^ (b <<< 1);ac_rfl
  · show (a <<< 1) ^^^ (b <<< 1)=((a <<< 1) ^^^ (27:UInt8)) ^^^ ((b <<< 1) ^^^ (27:UInt8));calc _=(a <<< 1) ^^^ (b <<< 1) ^^^ ((27:UInt8) ^^^ 27):=by simp
      _=_:=by ac_rfl
theorem mulF_xor:∀ (n:Nat) (o o' a a' b:UInt8),mulF n (o ^^^ o') (a ^^^ a') b=mulF n o a b ^^^ mulF n o' a' b
  | 0,_,_,_,_,_=>rfl
  | n+1,o,o',a,a',b=>by
    rw [mulF,mulF,mulF];split
    · rfl
    · rw [dbl_xor];split
      · have e:o ^^^ o' ^^^ (a ^^^ a')=(o ^^^ a) ^^^ (o' ^^^ a'):=by ac_rfl
        rw [e];exact mulF_xor n _ _ _ _ _
      · exact mulF_xor n _ _ _ _ _
theorem mulB_xor (a a' b:UInt8):mulB (a ^^^ a') b=mulB a b ^^^ mulB a' b:=by
  have:=mulF_xor 8 0 0 a a' b;simpa [mulB] using this
def sbox (y:UInt8):UInt8:=(List.range 5).foldl (fun s i=>s ^^^ ((y <<< UInt8.ofNat i) ||| (y >>> UInt8.ofNat (8-i)))) 99
structure Tb where
  fw:List UInt8
  bk:List UInt8
def setT (t:Tb) (x y:UInt8):Tb:=⟨t.fw.set x.toNat (sbox y),t.bk.set (sbox y).toNat x⟩
def tbS:Nat→Tb × UInt8 × UInt8
  | 0=>(⟨List.replicate 256 0,List.replicate 256 0⟩,1,1)
  | n+1=>(setT (tbS n).1 (tbS n).2.1 (tbS n).2.2,(tbS n).2.1 ^^^ dbl (tbS n).2.1,mulB (tbS n).2.2 246)
def Tab:Tb:=setT (tbS 255).1 0 0
theorem tbS_len:∀ n,(tbS n).1.fw.length=256∧(tbS n).1.bk.length=256
  | 0=>⟨List.length_replicate,List.length_replicate⟩
  | n+1=>by
    have:=tbS_len n;simp [tbS,setT,this.1,this.2]
theorem Tab_len:Tab.fw.length=256∧Tab.bk.length=256:=by
  have:=tbS_len 255;simp [Tab,setT,this.1,this.2]
theorem Tab_back (x:UInt8):Tab.bk.getD (Tab.fw.getD x.toNat 0).toNat 0=x:=by
  have key:∀ a:Fin 256,Tab.bk.getD (Tab.fw.getD a.val 0).toNat 0=UInt8.ofNat a.val:=by decide +kernel
  have:=key ⟨x.toNat,x.toNat_lt⟩;simpa using this
def of16 (f:Nat→UInt8):List UInt8:=(List.range 16).map f
def at_ (b:List UInt8) (i:Nat):UInt8:=b.getD i 0
def stg (f g:Nat→UInt8) (i:Nat):List UInt8:=of16 fun j=>if j<i then f j else g j
theorem of16_len (f:Nat→UInt8):(of16 f).length=16:=by simp [of16]
theorem of16_at (f:Nat→UInt8) {i:Nat} (h:i<16):at_ (of16 f) i=f i:=by
  simp [at_,of16,List.getD,h]
theorem of16_eta {b:List UInt8} (h:b.length=16):of16 (at_ b)=b:=by
  refine List.ext_getElem (by rw [of16_len,h]) fun i h1 h2=>?_;simp [of16,at_,List.getD,List.getElem?_eq_getElem h2]
theorem of16_congr {f g:Nat→UInt8} (h:∀ i,i<16→f i=g i):of16 f=of16 g:=by
  unfold of16;exact List.map_congr_left fun i hi=>h i (List.mem_range.1 hi)
theorem stg_0 (f g:Nat→UInt8):stg f g 0=of16 g:=of16_congr fun i _=>if_neg (Nat.not_lt_zero i)
theorem stg_16 (f g:Nat→UInt8):stg f g 16=of16 f:=of16_congr fun i h=>if_pos h
theorem stg_len (f g:Nat→UInt8) (i:Nat):(stg f g i).length=16:=of16_len _
theorem stg_at (f g:Nat→UInt8) {i j:Nat} (h:j<16):at_ (stg f g i) j=if j<i then f j else g j:=of16_at _ h
theorem stg_set (f g:Nat→UInt8) {i:Nat} (h:i<16):(stg f g i).set i (f i)=stg f g (i+1):=by
  refine List.ext_getElem (by rw [List.length_set,stg_len,stg_len]) fun j h1 h2=>?_;rw [stg_len] at h2;have e1:(stg f g (i+1))[j]'(by rw [stg_len];exact h2)=if j<i+1 then f j else g j:=by simp [stg,of16]
  have e2:(stg f g i)[j]'(by rw [stg_len];exact h2)=if j<i then f j else g j:=by simp [stg,of16]
  rw [List.getElem_set,e1,e2];by_cases hj:i=j
  · subst hj;rw [if_pos rfl,if_pos (Nat.lt_succ_self _)]
  · rw [if_neg hj];by_cases h3:j<i
    · rw [if_pos h3,if_pos (by omega)]
    · rw [if_neg h3,if_neg (by omega)]
def cmb (b k:List UInt8):List UInt8:=of16 fun i=>at_ b i ^^^ at_ k i
def sbs (t b:List UInt8):List UInt8:=of16 fun i=>t.getD (at_ b i).toNat 0
def rotI (s i:Nat):Nat:=4*((i / 4+s*(i % 4)) % 4)+i % 4
def rot (s:Nat) (b:List UInt8):List UInt8:=of16 fun i=>at_ b (rotI s i)
def mxA (r b:List UInt8) (i:Nat):Nat→UInt8
  | 0=>0
  | k+1=>mxA r b i k ^^^ mulB (at_ b (i / 4*4+k)) (at_ r ((k+4-i % 4) % 4))
def mix (r b:List UInt8):List UInt8:=of16 fun i=>mxA r b i 4
theorem cmb_two {b k:List UInt8} (h:b.length=16):cmb (cmb b k) k=b:=by
  rw [← of16_eta h];refine of16_congr fun i hi=>?_;rw [cmb,of16_at _ hi,of16_at _ hi,UInt8.xor_assoc,UInt8.xor_self,UInt8.xor_zero]
theorem sbs_two {b:List UInt8} (h:b.length=16):sbs Tab.bk (sbs Tab.fw b)=b:=by
  rw [← of16_eta h];refine of16_congr fun i hi=>?_;rw [sbs,of16_at _ hi,of16_at _ hi];exact Tab_back _
theorem rotI_lt (s i:Nat):rotI s i<16:=by
  unfold rotI;omega
theorem rot_two {b:List UInt8} (h:b.length=16):rot 3 (rot 1 b)=b:=by
  rw [← of16_eta h];refine of16_congr fun i hi=>?_;rw [rot,of16_at _ (rotI_lt _ _)];have:∀ i:Fin 16,rotI 1 (rotI 3 i.val)=i.val:=by decide
  rw [this ⟨i,hi⟩];exact of16_at _ hi
theorem gf0 (a:UInt8):mulB (mulB a 2) 14 ^^^ mulB (mulB a 1) 11 ^^^ mulB (mulB a 1) 13 ^^^ mulB (mulB a 3) 9=a:=by
  have key:∀ a:Fin 256,mulB (mulB (UInt8.ofNat a.val) 2) 14 ^^^ mulB (mulB (UInt8.ofNat a.val) 1) 11 ^^^ mulB (mulB (UInt8.ofNat a.val) 1) 13 ^^^ mulB (mulB (UInt8.ofNat a.val) 3) 9=UInt8.ofNat a.val:=by decide +kernel
  have:=key ⟨a.toNat,a.toNat_lt⟩;simpa using this
theorem gf1 (a:UInt8):mulB (mulB a 3) 14 ^^^ mulB (mulB a 2) 11 ^^^ mulB (mulB a 1) 13 ^^^ mulB (mulB a 1) 9=0:=by
  have key:∀ a:Fin 256,mulB (mulB (UInt8.ofNat a.val) 3) 14 ^^^ mulB (mulB (UInt8.ofNat a.val) 2) 11 ^^^ mulB (mulB (UInt8.ofNat a.val) 1) 13 ^^^ mulB (mulB (UInt8.ofNat a.val) 1) 9=0:=by decide +kernel
  have:=key ⟨a.toNat,a.toNat_lt⟩;simpa using this
theorem gf2 (a:UInt8):mulB (mulB a 1) 14 ^^^ mulB (mulB a 3) 11 ^^^ mulB (mulB a 2) 13 ^^^ mulB (mulB a 1) 9=0:=by
  have key:∀ a:Fin 256,mulB (mulB (UInt8.ofNat a.val) 1) 14 ^^^ mulB (mulB (UInt8.ofNat a.val) 3) 11 ^^^ mulB (mulB (UInt8.ofNat a.val) 2) 13 ^^^ mulB (mulB (UInt8.ofNat a.val) 1) 9=0:=by decide +kernel
  have:=key ⟨a.toNat,a.toNat_lt⟩;simpa using this
theorem gf3 (a:UInt8):mulB (mulB a 1) 14 ^^^ mulB (mulB a 1) 11 ^^^ mulB (mulB a 3) 13 ^^^ mulB (mulB a 2) 9=0:=by
  have key:∀ a:Fin 256,mulB (mulB (UInt8.ofNat a.val) 1) 14 ^^^ mulB (mulB (UInt8.ofNat a.val) 1) 11 ^^^ mulB (mulB (UInt8.ofNat a.val) 3) 13 ^^^ mulB (mulB (UInt8.ofNat a.val) 2) 9=0:=by decide +kernel
  have:=key ⟨a.toNat,a.toNat_lt⟩;simpa using this
def R1w:List UInt8:=[2,3,1,1]
def R2w:List UInt8:=[14,11,13,9]
def colF (r:List UInt8) (a:Nat→UInt8) (i:Nat):UInt8:=mulB (a 0) (at_ r ((4-i) % 4)) ^^^ mulB (a 1) (at_ r ((5-i) % 4)) ^^^ mulB (a 2) (at_ r ((6-i) % 4)) ^^^ mulB (a 3) (at_ r ((7-i) % 4))
theorem col_two (a:Nat→UInt8) {i:Nat} (hi:i<4):colF R2w (colF R1w a) i=a i:=by
  match i,hi with
  | 0,_ =>
    have h0:=gf0 (a 0);have h1:=gf1 (a 1);have h2:=gf2 (a 2);have h3:=gf3 (a 3);simp only [colF,R1w,R2w,at_,List.getD_cons_zero,List.getD_cons_succ,Nat.reduceSub,Nat.reduceMod,mulB_xor];calc _=(mulB (mulB (a 0) 2) 14 ^^^ mulB (mulB (a 0) 1) 11 ^^^ mulB (mulB (a 0) 1) 13 ^^^ mulB (mulB (a 0) 3) 9) ^^^ (mulB (mulB (a 1) 3) 14 ^^^ mulB (mulB (a 1) 2) 11 ^^^ mulB (mulB (a 1) 1) 13 ^^^ mulB (mulB (a 1) 1) 9) ^^^ (mulB (mulB (a 2) 1) 14 ^^^ mulB (mulB (a 2) 3) 11 ^^^ mulB (mulB (a 2) 2) 13 ^^^ mulB (mulB (a 2) 1) 9) ^^^ (mulB (mulB (a 3) 1) 14 ^^^ mulB (mulB (a 3) 1) 11 ^^^ mulB (mulB (a 3) 3) 13 ^^^ mulB (mulB (a 3) 2) 9):=by ac_rfl
      _=a 0:=by rw [h0,h1,h2,h3];simp
  | 1,_ =>
    have h0:=gf3 (a 0);have h1:=gf0 (a 1);have h2:=gf1 (a 2);have h3:=gf2 (a 3);simp only [colF,R1w,R2w,at_,List.getD_cons_zero,List.getD_cons_succ,Nat.reduceSub,Nat.reduceMod,mulB_xor];calc _=(mulB (mulB (a 0) 1) 14 ^^^ mulB (mulB (a 0) 1) 11 ^^^ mulB (mulB (a 0) 3) 13 ^^^ mulB (mulB (a 0) 2) 9) ^^^ (mulB (mulB (a 1) 2) 14 ^^^ mulB (mulB (a 1) 1) 11 ^^^ mulB (mulB (a 1) 1) 13 ^^^ mulB (mulB (a 1) 3) 9) ^^^ (mulB (mulB (a 2) 3) 14 ^^^ mulB (mulB (a 2) 2) 11 ^^^ mulB (mulB (a 2) 1) 13 ^^^ mulB (mulB (a 2) 1) 9) ^^^ (mulB (mulB (a 3) 1) 14 ^^^ mulB (mulB (a 3) 3) 11 ^^^ mulB (mulB (a 3) 2) 13 ^^^ mulB (mulB (a 3) 1) 9):=by ac_rfl
      _=a 1:=by rw [h0,h1,h2,h3];simp
  | 2,_ =>
    have h0:=gf2 (a 0);have h1:=gf3 (a 1);have h2:=gf0 (a 2);have h3:=gf1 (a 3);simp only [colF,R1w,R2w,at_,List.getD_cons_zero,List.getD_cons_succ,Nat.reduceSub,Nat.reduceMod,mulB_xor];calc _=(mulB (mulB (a 0) 1) 14 ^^^ mulB (mulB (a 0) 3) 11 ^^^ mulB (mulB (a 0) 2) 13 ^^^ mulB (mulB (a 0) 1) 9) ^^^ (mulB (mulB (a 1) 1) 14 ^^^ mulB (mulB (a 1) 1) 11 ^^^ mulB (mulB (a 1) 3) 13 ^^^ mulB (mulB (a 1) 2) 9) ^^^ (mulB (mulB (a 2) 2) 14 ^^^ mulB (mulB (a 2) 1) 11 ^^^ mulB (mulB (a 2) 1) 13 ^^^ mulB (mulB (a 2) 3) 9) ^^^ (mulB (mulB (a 3) 3) 14 ^^^ mulB (mulB (a 3) 2) 11 ^^^ mulB (mulB (a 3) 1) 13 ^^^ mulB (mulB (a 3) 1) 9):=by ac_rfl
      _=a 2:=by rw [h0,h1,h2,h3];simp
  | 3,_ =>
    have h0:=gf1 (a 0);have h1:=gf2 (a 1);have h2:=gf3 (a 2);have h3:=gf0 (a 3);simp only [colF,R1w,R2w,at_,List.getD_cons_zero,List.getD_cons_succ,Nat.reduceSub,Nat.reduceMod,mulB_xor];calc _=(mulB (mulB (a 0) 3) 14 ^^^ mulB (mulB (a 0) 2) 11 ^^^ mulB (mulB (a 0) 1) 13 ^^^ mulB (mulB (a 0) 1) 9) ^^^ (mulB (mulB (a 1) 1) 14 ^^^ mulB (mulB (a 1) 3) 11 ^^^ mulB (mulB (a 1) 2) 13 ^^^ mulB (mulB (a 1) 1) 9) ^^^ (mulB (mulB (a 2) 1) 14 ^^^ mulB (mulB (a 2) 1) 11 ^^^ mulB (mulB (a 2) 3) 13 ^^^ mulB (mulB (a 2) 2) 9) ^^^ (mulB (mulB (a 3) 2) 14 ^^^ mulB (mulB (a 3) 1) 11 ^^^ mulB (mulB (a 3) 1) 13 ^^^ mulB (mulB (a 3) 3) 9):=by ac_rfl
      _=a 3:=by rw [h0,h1,h2,h3];simp
end Go.Proofs.YtjjkfpbkmhfckaaGreatDoor
/- Plain arithmetic of the group: primes, powers modulo a prime, Fermat. No program here. -/
namespace Go.Proofs.YtjjkfpbkmhfckaaGreatDoor.Ch
def GP:Nat:=2147483579
def GQ:Nat:=1073741789
def noDiv (m lo:Nat):Nat→Bool
  | 0=>true
  | n+1=>(m % (lo+n) != 0) && noDiv m lo n
theorem noDiv_spec (m lo n:Nat) (h:noDiv m lo n=true):∀ d,lo≤d→d<lo+n→m % d ≠ 0:=by
  induction n with
  | zero=>intro d h1 h2;omega
  | succ n ih =>
    intro d h1 h2;simp only [noDiv,Bool.and_eq_true,bne_iff_ne,ne_eq] at h;by_cases hd:d=lo+n
    · subst hd;exact h.1
    · exact ih h.2 d h1 (by omega)
def chunks (m lo c:Nat):Nat→Bool
  | 0=>true
  | n+1=>noDiv m (lo+c*n) c && chunks m lo c n
theorem chunks_spec (m lo c n:Nat) (h:chunks m lo c n=true):∀ d,lo≤d→d<lo+c*n→m % d ≠ 0:=by
  induction n with
  | zero=>intro d h1 h2;omega
  | succ n ih =>
    intro d h1 h2;simp only [chunks,Bool.and_eq_true] at h;by_cases hd:lo+c*n≤d
    · exact noDiv_spec m _ c h.1 d hd (by rw [Nat.mul_succ] at h2;omega)
    · exact ih h.2 d h1 (by omega)
theorem dvd_sub_of_mod {n a b:Nat} (hab:a≤b) (h:a % n=b % n):n ∣ b-a:=by
  have h1:=Nat.div_add_mod a n;have h2:=Nat.div_add_mod b n;refine ⟨b / n-a / n,?_⟩;rw [Nat.mul_sub];omega
theorem mod_of_dvd_sub {n a b:Nat} (hab:a≤b) (h:n ∣ b-a):b % n=a % n:=by
  obtain ⟨t,ht⟩:=h;have:b=a+n*t:=by omega
  rw [this,Nat.add_mul_mod_self_left]
def Prime (m:Nat):Prop:=2≤m ∧ ∀ d,d ∣ m→d=1∨d=m
theorem prime_of_small (m b:Nat) (hm:2≤m) (hb:m<(b+1)*(b+1)) (h:∀ d,2≤d→d≤b→m % d ≠ 0):Prime m:=by
  refine ⟨hm,fun d hd=>?_⟩;obtain ⟨e,he⟩:=hd;by_cases h1:d=1
  · exact Or.inl h1
  · right;by_cases h2:d≤b
    · have hd0:d ≠ 0:=by rintro rfl;simp at he;omega
      exact absurd (by rw [he];exact Nat.mul_mod_right d e) (h d (by omega) h2)
    · by_cases h3:e≤b
      · have he0:e ≠ 0:=by rintro rfl;simp at he;omega
        by_cases h4:e=1
        · subst h4;omega
        · exact absurd (by rw [he];exact Nat.mul_mod_left d e) (h e (by omega) h3)
      · have:(b+1)*(b+1)≤d*e:=Nat.mul_le_mul (by omega) (by omega);omega
theorem primeGP:Prime GP :=
  prime_of_small GP 46500 (by decide +kernel) (by decide +kernel) (fun d h1 h2=>chunks_spec GP 2 500 93 (by decide +kernel) d h1 (by omega))
theorem primeGQ:Prime GQ :=
  prime_of_small GQ 32999 (by decide +kernel) (by decide +kernel) (fun d h1 h2=>chunks_spec GQ 2 500 66 (by decide +kernel) d h1 (by omega))
theorem Prime.coprime {m a:Nat} (h:Prime m) (ha:¬ m ∣ a):Nat.Coprime m a:=by
  rcases h.2 (Nat.gcd m a) (Nat.gcd_dvd_left m a) with hg | hg
  · exact hg
  · exact absurd (hg ▸ Nat.gcd_dvd_right m a) ha
theorem Prime.dvd_mul {m a b:Nat} (h:Prime m) (hd:m ∣ a*b):m ∣ a∨m ∣ b:=by
  by_cases ha:m ∣ a
  · exact Or.inl ha
  · exact Or.inr ((h.coprime ha).dvd_of_dvd_mul_left hd)
def binC:Nat→Nat→Nat
  | _,0=>1
  | 0,_+1=>0
  | n+1,k+1=>binC n k+binC n (k+1)
theorem C_zero (n:Nat):binC n 0=1:=by cases n <;> rfl
theorem C_gt (n:Nat):∀ k,n<k→binC n k=0:=by
  induction n with
  | zero=>intro k hk;cases k with
    | zero=>omega
    | succ k=>rfl
  | succ n ih=>intro k hk;cases k with
    | zero=>omega
    | succ k=>simp only [binC];rw [ih k (by omega),ih (k+1) (by omega)]
theorem C_self (n:Nat):binC n n=1:=by
  induction n with
  | zero=>rfl
  | succ n ih=>simp only [binC];rw [ih,C_gt n (n+1) (by omega)]
theorem C_absorb (n:Nat):∀ k,(k+1)*binC (n+1) (k+1)=(n+1)*binC n k:=by
  induction n with
  | zero =>
    intro k;cases k with
    | zero=>rfl
    | succ k=>simp [binC]
  | succ n ih =>
    intro k;cases k with
    | zero =>
      have h:=ih 0;simp only [binC,C_zero] at h ⊢;simp at h ⊢;omega
    | succ k =>
      have h1:=ih k;have h2:=ih (k+1);have e:binC (n+1+1) (k+1+1)=binC (n+1) (k+1)+binC (n+1) (k+1+1):=rfl;have e2:binC (n+1) (k+1)=binC n k+binC n (k+1):=rfl;rw [e,Nat.mul_add,h2];have:(k+1+1)*binC (n+1) (k+1)=(k+1)*binC (n+1) (k+1)+binC (n+1) (k+1):=by rw [Nat.add_mul (k+1) 1];simp
      rw [this,h1,e2];simp only [Nat.add_mul,Nat.mul_add];omega
def sumS (f:Nat→Nat):Nat→Nat
  | 0=>0
  | n+1=>sumS f n+f n
theorem S_left (f:Nat→Nat) (n:Nat):sumS f (n+1)=f 0+sumS (fun k=>f (k+1)) n:=by
  induction n with
  | zero=>simp [sumS]
  | succ n ih=>rw [sumS,ih];simp only [sumS];omega
theorem S_add (f g:Nat→Nat) (n:Nat):sumS (fun k=>f k+g k) n=sumS f n+sumS g n:=by
  induction n with
  | zero=>rfl
  | succ n ih=>simp only [sumS,ih];omega
theorem S_mul (a:Nat) (f:Nat→Nat) (n:Nat):sumS (fun k=>a*f k) n=a*sumS f n:=by
  induction n with
  | zero=>rfl
  | succ n ih=>simp only [sumS,ih,Nat.mul_add]
theorem S_congr (f g:Nat→Nat) (n:Nat) (h:∀ k,k<n→f k=g k):sumS f n=sumS g n:=by
  induction n with
  | zero=>rfl
  | succ n ih=>simp only [sumS];rw [ih (fun k hk=>h k (by omega)),h n (by omega)]
theorem S_dvd (m:Nat) (f:Nat→Nat) (n:Nat) (h:∀ k,k<n→m ∣ f k):m ∣ sumS f n:=by
  induction n with
  | zero=>exact ⟨0,rfl⟩
  | succ n ih=>exact Nat.dvd_add (ih (fun k hk=>h k (by omega))) (h n (by omega))
theorem binom (a n:Nat):(a+1) ^ n=sumS (fun k=>binC n k*a ^ k) (n+1):=by
  induction n with
  | zero=>simp [sumS,binC]
  | succ n ih =>
    rw [S_left];have e:∀ k,binC (n+1) (k+1)*a ^ (k+1)=a*(binC n k*a ^ k)+binC n (k+1)*a ^ (k+1):=by
      intro k;show (binC n k+binC n (k+1))*a ^ (k+1)=_;rw [Nat.add_mul,Nat.pow_succ];congr 1
      rw [← Nat.mul_assoc,← Nat.mul_assoc,Nat.mul_comm a,Nat.mul_right_comm]
    rw [S_congr _ _ _ (fun k _=>e k),S_add,S_mul,← ih];have h2:=S_left (fun k=>binC n k*a ^ k) (n+1);have h3:sumS (fun k=>binC n k*a ^ k) (n+1+1)=sumS (fun k=>binC n k*a ^ k) (n+1)+binC n (n+1)*a ^ (n+1):=rfl;rw [C_gt n (n+1) (by omega),← ih] at h3;simp only [C_zero,Nat.pow_zero,Nat.zero_mul,Nat.add_zero,Nat.mul_one] at h2 h3 ⊢;rw [Nat.pow_succ,Nat.mul_add,Nat.mul_one,Nat.mul_comm];rw [h3] at h2;omega
theorem Prime.dvd_C {m:Nat} (h:Prime m) (k:Nat) (h0:0<k) (h1:k<m):m ∣ binC m k:=by
  obtain ⟨k,rfl⟩:∃ j,k=j+1:=⟨k-1,by omega⟩;obtain ⟨n,rfl⟩:∃ j,m=j+1:=⟨m-1,by omega⟩;have hd:(n+1) ∣ (k+1)*binC (n+1) (k+1):=⟨binC n k,C_absorb n k⟩;rcases h.dvd_mul hd with h2 | h2
  · exact absurd (Nat.le_of_dvd (by omega) h2) (by omega)
  · exact h2
theorem Prime.dream {m:Nat} (h:Prime m) (a:Nat):(a+1) ^ m % m=(a ^ m+1) % m:=by
  obtain ⟨n,rfl⟩:∃ j,m=j+1:=⟨m-1,by have:=h.1;omega⟩;rw [binom,sumS,S_left];simp only [C_zero,Nat.pow_zero,C_self,Nat.one_mul,Nat.mul_one];obtain ⟨t,ht⟩:=S_dvd (n+1) (fun k=>binC (n+1) (k+1)*a ^ (k+1)) n (fun k hk=>Nat.dvd_trans (h.dvd_C (k+1) (by omega) (by omega)) ⟨_,rfl⟩);rw [ht];have:1+(n+1)*t+a ^ (n+1)=a ^ (n+1)+1+(n+1)*t:=by omega
  rw [this,Nat.add_mul_mod_self_left]
theorem Prime.fermat' {m:Nat} (h:Prime m) (a:Nat):a ^ m % m=a % m:=by
  induction a with
  | zero=>rw [Nat.zero_pow (by have:=h.1;omega)]
  | succ a ih=>rw [h.dream,Nat.add_mod,ih,← Nat.add_mod]
theorem Prime.fermat {m:Nat} (h:Prime m) (a:Nat) (ha:¬ m ∣ a):a ^ (m-1) % m=1 % m:=by
  obtain ⟨n,rfl⟩:∃ j,m=j+1:=⟨m-1,by have:=h.1;omega⟩;have hf:=h.fermat' a;simp only [Nat.add_sub_cancel];have ha0:a ≠ 0:=by rintro rfl;exact ha ⟨0,rfl⟩
  have hp:1≤a ^ n:=Nat.one_le_iff_ne_zero.2 (by simp [Nat.pow_eq_zero];intro e;exact absurd e ha0);have hd:(n+1) ∣ a*(a ^ n-1):=by
    rw [Nat.mul_sub,Nat.mul_one];have e:a*a ^ n=a ^ (n+1):=by rw [Nat.pow_succ,Nat.mul_comm]
    rw [e];exact dvd_sub_of_mod (by rw [← e];exact Nat.le_mul_of_pos_right _ hp) hf.symm
  rcases h.dvd_mul hd with h2 | h2
  · exact absurd h2 ha
  · exact mod_of_dvd_sub hp h2
theorem pow_mod_mul (x a b n:Nat):(x ^ a % n)*(x ^ b % n) % n=x ^ (a+b) % n:=by
  rw [Nat.pow_add,← Nat.mul_mod]
theorem pow_mod_pow (x a b n:Nat):(x ^ a % n) ^ b % n=x ^ (a*b) % n:=by
  rw [← Nat.pow_mod,Nat.pow_mul]
theorem gcd_pow (x n:Nat):∀ a b:Nat,x ^ a % n=1 % n→x ^ b % n=1 % n→x ^ (Nat.gcd a b) % n=1 % n:=by
  intro a b;induction a,b using Nat.gcd.induction with
  | H0 b=>intro _ h;simpa using h
  | H1 a b ha ih =>
    intro h1 h2;rw [Nat.gcd_rec];refine ih ?_ h1;have e:b=a*(b / a)+b % a:=(Nat.div_add_mod b a).symm;rw [e,Nat.pow_add,Nat.pow_mul,Nat.mul_mod,Nat.pow_mod,h1,← Nat.pow_mod,Nat.one_pow,← Nat.mul_mod,Nat.one_mul] at h2;exact h2
theorem P_pos:0<GP:=by decide +kernel
theorem one_P:1 % GP=1:=by decide +kernel
theorem PQ:GP=2*GQ+1:=by decide +kernel
theorem four_Q:4 ^ GQ % GP=1:=by
  have h:=primeGP.fermat 2 (by decide +kernel);have e:GP-1=2*GQ:=by rw [PQ];omega
  rw [e,Nat.pow_mul,one_P] at h;have e4:2 ^ 2=4:=by decide
  rw [e4] at h;exact h
theorem four_pow (m:Nat) (hm:¬ GQ ∣ m):4 ^ m % GP ≠ 1:=by
  intro h;have hc:Nat.gcd GQ m=1:=primeGQ.coprime hm;have h1:=gcd_pow 4 GP GQ m (by rw [four_Q,one_P]) (by rw [h,one_P]);rw [hc] at h1;exact absurd h1 (by decide +kernel)
def Elt (x:Nat):Prop:=0<x∧x<GP∧x ≠ 1∧x ^ GQ % GP=1
theorem pos_of_pow {x k:Nat} (hk:0<k) (h:x ^ k % GP=1):0<x:=by
  rcases Nat.eq_zero_or_pos x with h0 | h0
  · subst h0;rw [Nat.zero_pow hk] at h;simp at h
  · exact h0
theorem elt_four {m:Nat} (hm:¬ GQ ∣ m):Elt (4 ^ m % GP):=by
  have h:(4 ^ m % GP) ^ GQ % GP=1:=by
    rw [pow_mod_pow,Nat.mul_comm,Nat.pow_mul,Nat.pow_mod,four_Q,Nat.one_pow,one_P]
  exact ⟨pos_of_pow (by decide +kernel) h,Nat.mod_lt _ P_pos,four_pow m hm,h⟩
theorem not_dvd_lt {a:Nat} (ha:1≤a) (haQ:a<GQ):¬ GQ ∣ a:=fun h=>absurd (Nat.le_of_dvd (by omega) h) (by omega)
end Go.Proofs.YtjjkfpbkmhfckaaGreatDoor.Ch
