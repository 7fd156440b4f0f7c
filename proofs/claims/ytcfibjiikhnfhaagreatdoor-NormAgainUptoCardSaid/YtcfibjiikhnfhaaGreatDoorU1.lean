/-
  Small words that every walk of this seat uses:'Ext w w'':the world w' is w with new blocks behind it;of what was there nothing has turned. Helper lemmas;no statement of the seat is proved here.
-/
import Derived.Test.YtcfibjiikhnfhaaGreatDoorProg
import Derived.WalkKit
import Derived.WalkSpells
import Derived.WalkLawsBesides
import Derived.RowKit3
import Derived.Below
import Derived.Lib.Hide
import Derived.WalkSmall
import Derived.Lib.Bytes
import Derived.Maps.AppendAt
import Derived.Deep.RegionHeld3
import Derived.LaidEql
import Derived.Stop.Asserts
import Derived.RowKitTokens
namespace Go.Proofs.YtcfibjiikhnfhaaGreatDoor
open Go.RowKit
def Ext (w w':World):Prop:=Below w.heap.size w w'
theorem Ext.refl (w:World):Ext w w:=Below.refl _ _
theorem Ext.alloc {a w:World} (h:Ext a w) (o:Obj):Ext a (w.alloc o):=Below.alloc h (Below.size h) o
theorem Ext.trans {a b c:World} (h:Ext a b) (k:Ext b c):Ext a c:=Below.trans h (Below.mono k (Below.size h))
theorem Ext.set {a w:World} (h:Ext a w) {p:Addr} (hp:a.heap.size≤p.block) (u:Value):Ext a (w.setCell p u):=Below.setCell h hp u
theorem Ext.drew {a w:World} (h:Ext a w):Ext a w.drew:=Below.drew h
theorem Ext.drewN {a w:World} (h:Ext a w) (n:Nat):Ext a (w.drewN n):=below_drewN h n
theorem Ext.size {a w:World} (h:Ext a w):a.heap.size≤w.heap.size:=Below.size h
theorem Ext.cells {a w:World} (h:Ext a w):∀b o,b< a.heap.size→w.cell? ⟨b,o,none⟩=a.cell? ⟨b,o,none⟩:=fun b o hb=>Below.cell (p:=⟨b,o,none⟩) h hb
theorem Ext.frees {a w:World} (h:Ext a w):∀b o,b< a.heap.size→w.frozen? ⟨b,o,none⟩=a.frozen? ⟨b,o,none⟩:=fun b o hb=>Below.frozen (p:=⟨b,o,none⟩) h hb
theorem Ext.keep {a w:World} (h:Ext a w) {b o:Nat} {v:Option Value} (hb:b< a.heap.size) (hc:a.cell? ⟨b,o,none⟩=v):w.cell? ⟨b,o,none⟩=v:=(h.cells b o hb).trans hc
theorem Ext.free {a w:World} (h:Ext a w) {b o:Nat} {v:Bool} (hb:b< a.heap.size) (hc:a.frozen? ⟨b,o,none⟩=v):w.frozen? ⟨b,o,none⟩=v:=(h.frees b o hb).trans hc
theorem ret_int {k:IntKind} {a b:Int} (h:a=b):Ending.returned (.int k a)= .returned (.int k b):=by rw[h]
theorem ret_bool {a b:Bool} (h:a=b):Ending.returned (.bool a)= .returned (.bool b):=by rw[h]
set_option maxHeartbeats 32000000
set_option linter.unusedVariables false
def bs (l:List UInt8):ByteArray:=⟨l.toArray⟩
theorem bs_size (l:List UInt8):(bs l).size=l.length:=by simp[bs,ByteArray.size]
theorem bs_toList (l:List UInt8):(bs l).toList=l:=Lib.toList_data _
theorem bs_append (l m:List UInt8):bs l++bs m=bs (l++m):=by
  apply ByteArray.ext;simp[bs]
theorem bs_extract (l:List UInt8) (a b:Nat):(bs l).extract a b=bs ((l.drop a).take (b - a)):=by
  apply ByteArray.ext
  simp[bs,ByteArray.data_extract,List.extract_toArray]
theorem bs_inj' {a b:List UInt8} (h:bs a=bs b):a=b:=by
  have:=congrArg (fun s:ByteArray=>s.data.toList) h
  exact this
theorem bs_eqv (a b:List UInt8):((bs a).toList==(bs b).toList)=(a==b):=by rw[bs_toList,bs_toList]
theorem bs_getE (l:List UInt8) (j:Nat) (h:j< (bs l).size):(bs l)[j]=l[j]'(by rw[bs_size]at h;exact h):=rfl
inductive DV
  | v (x:Value)
  | s (z:Nat) (es:List DV)
inductive Rep (w:World) (ok:Nat→Prop):Value→DV→Prop
  | leaf (x:Value) (hx:∀s,x= .string s→s.size≤9223372036854775807):Rep w ok x (.v x)
  | nil (z:Nat):Rep w ok (.slice none 0 0) (.s z [])
  | emp (ad:Addr) (z:Nat):Rep w ok (.slice (some ad) 0 0) (.s z [])
  | row (b off len cap z:Nat) (us:List Value) (es:List DV) (hok:0< us.length→ok b) (hl:es.length=len*z) (hu:us.length=len*z) (hcap:len≤cap) (hm:cap≤9223372036854775807)
      (hc:∀(k:Nat) (u:Value),us[k]? =some u→w.cell? ⟨b,off+k,none⟩=some u) (hr:∀(k:Nat) (u:Value) (e:DV),us[k]? =some u→es[k]? =some e→Rep w ok u e):Rep w ok (.slice (some ⟨b,off,none⟩) len cap) (.s z es)
theorem Rep.is {w:World} {ok:Nat→Prop} {u x:Value} (h:Rep w ok u (.v x)):u=x:=by cases h;rfl
theorem Rep.int (w:World) (ok:Nat→Prop) (k:IntKind) (n:Int):Rep w ok (.int k n) (.v (.int k n)):= .leaf _ (fun s h=>by cases h)
theorem Rep.string (w:World) (ok:Nat→Prop) (s:ByteArray) (h:s.size≤9223372036854775807):Rep w ok (.string s) (.v (.string s)):= .leaf _ (fun t e=>by cases e;exact h)
theorem Rep.bound {w:World} {ok:Nat→Prop} {u:Value} {s:ByteArray} (h:Rep w ok u (.v (.string s))):s.size≤9223372036854775807:=by
  cases h with
  | leaf x hx=>exact hx s rfl
theorem Rep.ok {w:World} {p q:Nat→Prop} {v:Value} {d:DV} (h:Rep w p v d) (hpq:∀b,p b→q b):Rep w q v d:=by
  induction h with
  | leaf x hx=>exact .leaf x hx
  | nil z=>exact .nil z
  | emp ad z=>exact .emp ad z
  | row b off len cap z us es hok hl hu hcap hm hc hr ih=>exact .row b off len cap z us es (fun h=>hpq _ (hok h)) hl hu hcap hm hc ih
theorem Rep.kept {w w':World} {p:Nat→Prop} {v:Value} {d:DV} (h:Rep w p v d) (hb:∀b,p b→b< w.heap.size→w'.heap[b]? =w.heap[b]?):Rep w' p v d:=by
  induction h with
  | leaf x hx=>exact .leaf x hx
  | nil z=>exact .nil z
  | emp ad z=>exact .emp ad z
  | row b off len cap z us es hok hl hu hcap hm hc hr ih=>
    refine .row b off len cap z us es hok hl hu hcap hm (fun k u hk=> ?_) ih
    have h1:=hc k u hk
    have hlt:b< w.heap.size:=World.block_lt_of_cell? w _ h1
    have hpos:0< us.length:=by have:=(List.getElem?_eq_some_iff.1 hk).1;omega
    rw[←h1]
    exact World.cell?_of_block (hb b (hok hpos) hlt)
theorem Rep.ext {w w':World} {p:Nat→Prop} {v:Value} {d:DV} (h:Rep w p v d) (hB:Ext w w'):Rep w' p v d:=h.kept fun b _ hb=>Below.block hB b hb
theorem Rep.slice {w:World} {p:Nat→Prop} {v:Value} {z:Nat} {es:List DV} (h:Rep w p v (.s z es)):∃a len cap,v= .slice a len cap∧es.length=len*z∧len≤cap∧cap≤9223372036854775807∧(a=none→len=0):=by
  cases h with
  | nil=>exact⟨none,0,0,rfl,by simp,by omega,by omega,fun _=>rfl⟩
  | emp ad=>exact⟨some ad,0,0,rfl,by simp,by omega,by omega,fun h=>by cases h⟩
  | row b off len cap _ us _ hok hl hu hcap hm hc hr=>exact⟨_,len,cap,rfl,hl,hcap,hm,fun h=>by cases h⟩
theorem Rep.at {w:World} {p:Nat→Prop} {a:Option Addr} {len cap z:Nat} {es:List DV} (h:Rep w p (.slice a len cap) (.s z es)) (k:Nat) (hk:k< es.length):
    ∃b off u,a=some ⟨b,off,none⟩∧w.cell? ⟨b,off+k,none⟩=some u∧Rep w p u es[k]∧b< w.heap.size∧p b:=by
  cases h with
  | nil=>simp at hk
  | emp=>simp at hk
  | row b off _ _ _ us _ hok hl hu hcap hm hc hr=>
    have hku:k< us.length:=by rw[hu,←hl];exact hk
    have h1:=hc k us[k] (List.getElem?_eq_getElem hku)
    exact⟨b,off,us[k],rfl,h1,hr k _ _ (List.getElem?_eq_getElem hku) (List.getElem?_eq_getElem hk),World.block_lt_of_cell? w _ h1,hok (by omega)⟩
theorem Rep.all {w:World} {p:Nat→Prop} {a:Option Addr} {len cap z:Nat} {es:List DV} (h:Rep w p (.slice a len cap) (.s z es)) (hne:0< es.length):
    ∃b off,a=some ⟨b,off,none⟩∧b< w.heap.size∧p b∧∀k e,es[k]? =some e→∃u,w.cell? ⟨b,off+k,none⟩=some u∧Rep w p u e:=by
  obtain⟨b,off,_,rfl,_,_,hb,hp⟩:=h.at 0 hne
  refine⟨b,off,rfl,hb,hp,fun k e he=> ?_⟩
  obtain⟨hk,rfl⟩:=List.getElem?_eq_some_iff.1 he
  obtain⟨b',off',u,e',hc,hr,_⟩:=h.at k hk
  cases e'
  exact⟨u,hc,hr⟩
theorem Rep.sub {w:World} {p:Nat→Prop} {b off len cap z:Nat} {es:List DV} (h:Rep w p (.slice (some ⟨b,off,none⟩) len cap) (.s z es)) (i j cap':Nat) (hij:i≤j) (hj:j≤len) (hc':j - i≤cap') (hc2:cap'≤9223372036854775807):
    Rep w p (.slice (some ⟨b,off+i*z,none⟩) (j - i) cap') (.s z ((es.drop (i*z)).take ((j - i)*z))):=by
  cases h with
  | emp=>
    obtain rfl:j=0:=by omega
    obtain rfl:i=0:=by omega
    exact .row b _ (0 - 0) cap' z [] _ (fun h=>absurd h (Nat.lt_irrefl 0)) (by simp) (by simp) (by omega) hc2 (fun k u h=>by simp at h) (fun k u e h=>by simp at h)
  | row _ _ _ _ _ us _ hok hl hu hcap hm hc hr=>
    have h1:j*z≤len*z:=Nat.mul_le_mul_right _ hj
    have h2:i*z+(j - i)*z=j*z:=by rw[←Nat.add_mul];congr 1;omega
    refine .row b (off+i*z) (j - i) cap' z ((us.drop (i*z)).take ((j - i)*z)) _ (fun hpos=>hok (by rw[List.length_take,List.length_drop]at hpos;omega)) (by rw[List.length_take,List.length_drop];omega) (by rw[List.length_take,List.length_drop];omega) hc' hc2 (fun k u hk=> ?_) (fun k u e hk he=> ?_)
    · rw[List.getElem?_take]at hk
      split at hk
      · rw[List.getElem?_drop]at hk
        rw[Nat.add_assoc];exact hc _ _ hk
      · cases hk
    · rw[List.getElem?_take]at hk he
      split at hk
      · rename_i hlt
        rw[if_pos hlt]at he
        rw[List.getElem?_drop]at hk he
        exact hr _ _ _ hk he
      · cases hk
def Reps (w:World) (p:Nat→Prop) (us:List Value) (es:List DV):Prop:=us.length=es.length∧∀(k:Nat) (u:Value) (e:DV),us[k]? =some u→es[k]? =some e→Rep w p u e
theorem Reps.nil (w:World) (p:Nat→Prop):Reps w p [] []:=⟨rfl,fun k u e h=>by simp at h⟩
theorem Reps.cons {w:World} {p:Nat→Prop} {u:Value} {e:DV} {us:List Value} {es:List DV} (h:Rep w p u e) (hs:Reps w p us es):Reps w p (u::us) (e::es):=
  ⟨by simp[hs.1],fun k u' e' hk he=>by
    cases k with
    | zero=>simp at hk he;subst hk he;exact h
    | succ k=>exact hs.2 k u' e' (by simpa using hk) (by simpa using he)⟩
theorem Reps.append {w:World} {p:Nat→Prop} {us us':List Value} {es es':List DV} (h:Reps w p us es) (h':Reps w p us' es'):Reps w p (us++us') (es++es'):=
  ⟨by simp[h.1,h'.1],fun k u e hk he=>by
    by_cases hlt:k< us.length
    · rw[List.getElem?_append_left hlt]at hk
      rw[List.getElem?_append_left (by rw[←h.1];exact hlt)]at he
      exact h.2 k u e hk he
    · rw[List.getElem?_append_right (by omega)]at hk
      rw[List.getElem?_append_right (by rw[←h.1];omega),←h.1]at he
      exact h'.2 _ u e hk he⟩
theorem Reps.ok {w:World} {p q:Nat→Prop} {us:List Value} {es:List DV} (h:Reps w p us es) (hpq:∀b,p b→q b):Reps w q us es:=⟨h.1,fun k u e hk he=>(h.2 k u e hk he).ok hpq⟩
theorem Reps.kept {w w':World} {p:Nat→Prop} {us:List Value} {es:List DV} (h:Reps w p us es) (hb:∀b,p b→b< w.heap.size→w'.heap[b]? =w.heap[b]?):Reps w' p us es:=⟨h.1,fun k u e hk he=>(h.2 k u e hk he).kept hb⟩
theorem Reps.ext {w w':World} {p:Nat→Prop} {us:List Value} {es:List DV} (h:Reps w p us es) (hB:Ext w w'):Reps w' p us es:=⟨h.1,fun k u e hk he=>(h.2 k u e hk he).ext hB⟩
def Own (w:World) (p:Nat→Prop) (base:Nat) (e:TypeId) (z:Nat) (v:Value) (n:Nat) (es:List DV):Prop:=
  ∃us,w.ownsRow base e z v n us∧Reps w (fun b=>p b∧some b≠v.ownBlock∧b< w.heap.size) us es
theorem Own.nil (w:World) (p:Nat→Prop) (base:Nat) (e:TypeId) (z:Nat):Own w p base e z (.slice none 0 0) 0 []:=⟨[],World.ownsRow_nil _ _ _ _,Reps.nil _ _⟩
theorem Own.ext {w w':World} {p:Nat→Prop} {base z n:Nat} {e:TypeId} {v:Value} {es:List DV} (h:Own w p base e z v n es) (hB:Ext w w'):Own w' p base e z v n es:=by
  obtain⟨us,h1,h2⟩:=h
  exact⟨us,h1.kept (row:=none) ⟨hB.os,hB.tape,hB.output,hB.size,fun i hi _=>Below.block hB i hi⟩ (by cases v.ownBlock<;> simp),(h2.ext hB).ok fun b hb=>⟨hb.1,hb.2.1,Nat.lt_of_lt_of_le hb.2.2 hB.size⟩⟩
theorem Own.form {w:World} {p:Nat→Prop} {base z n:Nat} {e:TypeId} {v:Value} {es:List DV} (h:Own w p base e z v n es):∃a cap,v= .slice a n cap∧n≤cap∧cap≤9223372036854775807:=by
  obtain⟨us,h1,h2⟩:=h
  rcases h1.2 with⟨rfl,rfl⟩ | ⟨g,cap,cur,rfl,_,_,hn,hm,_⟩
  · exact⟨none,0,rfl,by omega,by omega⟩
  · exact⟨_,cap,rfl,hn,by unfold maxLen at hm;omega⟩
theorem Own.rep {w:World} {p:Nat→Prop} {base z n:Nat} {e:TypeId} {v:Value} {es:List DV} (h:Own w p base e z v n es):Rep w (fun b=>p b∨base≤b) v (.s z es):=by
  obtain⟨us,h1,h2⟩:=h
  rcases h1.2 with⟨rfl,rfl⟩ | ⟨g,cap,cur,rfl,hb,hg,hn,hm,hs,ht⟩
  · have:es= []:=List.eq_nil_of_length_eq_zero (by rw[←h2.1,h1.1];simp)
    subst this;exact .nil z
  · exact .row g 0 n cap z us es (fun _=>Or.inr hb) (by rw[←h2.1];exact h1.1) h1.1 hn (by unfold maxLen at hm;omega) (fun k u hk=>by
      have:=h1.cells (g:=g) rfl k u hk
      have e0:(⟨g,0,none⟩:Addr).add k=⟨g,0+k,none⟩:=by unfold Addr.add;split<;> simp_all
      rw[e0]at this;exact this) (fun k u d hk hd=>(h2.2 k u d hk hd).ok fun b hb=>Or.inl hb.1)
theorem Own.push {w w':World} {p:Nat→Prop} {base z n m:Nat} {e:TypeId} {v v':Value} {us ns:List Value} {es ds:List DV}
    (h2:Reps w (fun b=>p b∧some b≠v.ownBlock∧b< w.heap.size) us es) (hn:Reps w (fun b=>p b∧some b≠v.ownBlock∧b< w.heap.size) ns ds)
    (hown:w'.ownsRow base e z v' (n+m) (us++ns)) (hg:w.grownBy w' v.ownBlock) (hat:v'.ownBlock=v.ownBlock∨v'.ownBlock=some w.heap.size):Own w' p base e z v' (n+m) (es++ds):=by
  refine⟨us++ns,hown,?_⟩
  have hk:∀{xs:List Value} {ys:List DV},Reps w (fun b=>p b∧some b≠v.ownBlock∧b< w.heap.size) xs ys→Reps w' (fun b=>p b∧some b≠v'.ownBlock∧b< w'.heap.size) xs ys:=fun hx=>
    (hx.kept fun b hb hlt=>hg.block b hlt hb.2.1).ok fun b hb=>⟨hb.1,by
      rcases hat with h | h
      · rw[h];exact hb.2.1
      · rw[h];intro e;have:=Option.some.inj e;omega,Nat.lt_of_lt_of_le hb.2.2 hg.size⟩
  exact(hk h2).append (hk hn)
abbrev Bytes:=List UInt8
structure Attr where
  n:Bytes
  v:Bytes
structure Step where
  n:Bytes
  key:List Bytes
structure Rule where
  path:List Bytes
  keys:List Bytes
inductive Node
  | mk (kind:Int) (name text:Bytes) (attrs:List Attr) (kids:List Node)
def Node.kind:Node→Int | .mk k _ _ _ _=>k
def Node.name:Node→Bytes | .mk _ n _ _ _=>n
def Node.text:Node→Bytes | .mk _ _ t _ _=>t
def Node.attrs:Node→List Attr | .mk _ _ _ a _=>a
def Node.kids:Node→List Node | .mk _ _ _ _ k=>k
def strD (l:Bytes):DV:= .v (.string (bs l))
def intD (n:Int):DV:= .v (.int .i64 n)
def strsD (l:List Bytes):DV:= .s 1 (l.flatMap fun x=> [strD x])
def attrC (a:Attr):List DV:= [strD a.n,strD a.v]
def attrsD (l:List Attr):DV:= .s 2 (l.flatMap attrC)
def stepC (s:Step):List DV:= [strD s.n,strsD s.key]
def ruleC (r:Rule):List DV:= [strsD r.path,strsD r.keys]
def rulesD (l:List Rule):DV:= .s 2 (l.flatMap ruleC)
mutual
def nodeC:Node→List DV
  | .mk k n t la ks=> [intD k,strD n,strD t,attrsD la,.s 5 (nodesC ks)]
def nodesC:List Node→List DV
  | []=> []
  | n::r=>nodeC n++nodesC r
end
def nodesD (l:List Node):DV:= .s 5 (l.flatMap nodeC)
theorem nodesC_eq:∀l:List Node,nodesC l=l.flatMap nodeC
  | []=>rfl
  | n::r=>by rw[nodesC,List.flatMap_cons,nodesC_eq r]
theorem nodeC_eq (n:Node):nodeC n= [intD n.kind,strD n.name,strD n.text,attrsD n.attrs,nodesD n.kids]:=by
  cases n
  rw[nodeC,nodesC_eq];rfl
theorem flat_len {α:Type} (f:α→List DV) (z:Nat) (hz:∀x,(f x).length=z):∀l:List α,(l.flatMap f).length=l.length*z
  | []=>by simp
  | x::r=>by rw[List.flatMap_cons,List.length_append,hz,flat_len f z hz r,List.length_cons,Nat.add_mul];omega
theorem flat_get {α:Type} (f:α→List DV) (z:Nat) (hz:∀x,(f x).length=z):∀(l:List α) (i:Nat) (hi:i< l.length) (j:Nat),j< z→(l.flatMap f)[i*z+j]? =(f l[i])[j]?
  | [],i,hi,j,hj=>absurd hi (Nat.not_lt_zero _)
  | x::r,0,hi,j,hj=>by rw[List.flatMap_cons,Nat.zero_mul,Nat.zero_add,List.getElem?_append_left (by rw[hz];exact hj)];rfl
  | x::r,i+1,hi,j,hj=>by
    rw[List.flatMap_cons,List.getElem?_append_right (by rw[hz,Nat.add_mul];omega),hz,show(i+1)*z+j - z=i*z+j by rw[Nat.add_mul];omega,flat_get f z hz r i (by simpa using hi) j hj]
    rfl
theorem elem_at {α:Type} {f:α→List DV} {z:Nat} (hz:∀x,(f x).length=z) {w:World} {p:Nat→Prop} {a:Option Addr} {len cap:Nat} {l:List α} (h:Rep w p (.slice a len cap) (.s z (l.flatMap f))) (h0:0< z) (i:Nat) (hi:i< l.length):
    ∃b off,a=some ⟨b,off,none⟩∧b< w.heap.size∧p b∧∀j e,(f l[i])[j]? =some e→∃u,w.cell? ⟨b,off+(i*z+j),none⟩=some u∧Rep w p u e:=by
  have hlen:=flat_len f z hz l
  have hpos:0< (l.flatMap f).length:=by
    rw[hlen];exact Nat.mul_pos (by omega) h0
  obtain⟨b,off,ha,hb,hp,hall⟩:=h.all hpos
  refine⟨b,off,ha,hb,hp,fun j e he=>hall _ _ ?_⟩
  have hj:j< z:=by rw[←hz l[i]];exact(List.getElem?_eq_some_iff.1 he).1
  rw[flat_get f z hz l i hi j hj];exact he
theorem Rep.count {α:Type} {f:α→List DV} {z:Nat} (hz:∀x,(f x).length=z) {w:World} {p:Nat→Prop} {v:Value} {l:List α} (h:Rep w p v (.s z (l.flatMap f))) (h0:0< z):∃a cap,v= .slice a l.length cap∧l.length≤cap∧cap≤9223372036854775807:=by
  obtain⟨a,len,cap,rfl,hl,hc,hm,_⟩:=h.slice
  rw[flat_len f z hz]at hl
  have:l.length=len:=Nat.eq_of_mul_eq_mul_right h0 hl
  subst this
  exact⟨a,cap,rfl,hc,hm⟩
theorem z_str (x:Bytes):(([strD x]:List DV)).length=1:=rfl
theorem z_attr (x:Attr):(attrC x).length=2:=rfl
theorem z_step (x:Step):(stepC x).length=2:=rfl
theorem z_rule (x:Rule):(ruleC x).length=2:=rfl
theorem z_node (x:Node):(nodeC x).length=5:=by rw[nodeC_eq];rfl
theorem str_at {w:World} {p:Nat→Prop} {a:Option Addr} {len cap:Nat} {l:List Bytes} (h:Rep w p (.slice a len cap) (strsD l)) (i:Nat) (hi:i< l.length):
    ∃b off,a=some ⟨b,off,none⟩∧b< w.heap.size∧p b∧w.cell? ⟨b,off+i,none⟩=some (.string (bs l[i])):=by
  obtain⟨b,off,ha,hb,hp,hc⟩:=elem_at z_str h (by omega) i hi
  obtain⟨u,hu,hr⟩:=hc 0 _ rfl
  rw[Nat.mul_one,Nat.add_zero]at hu
  exact⟨b,off,ha,hb,hp,by rw[hu,hr.is]⟩
theorem attr_at {w:World} {p:Nat→Prop} {a:Option Addr} {len cap:Nat} {l:List Attr} (h:Rep w p (.slice a len cap) (attrsD l)) (i:Nat) (hi:i< l.length):
    ∃b off,a=some ⟨b,off,none⟩∧b< w.heap.size∧p b∧w.cell? ⟨b,off+i*2,none⟩=some (.string (bs l[i].n))∧w.cell? ⟨b,off+i*2+1,none⟩=some (.string (bs l[i].v)):=by
  obtain⟨b,off,ha,hb,hp,hc⟩:=elem_at z_attr h (by omega) i hi
  obtain⟨u,hu,hr⟩:=hc 0 _ rfl
  obtain⟨u1,hu1,hr1⟩:=hc 1 _ rfl
  exact⟨b,off,ha,hb,hp,by rw[←hr.is];exact hu,by rw[←hr1.is];exact hu1⟩
theorem rule_at {w:World} {p:Nat→Prop} {a:Option Addr} {len cap:Nat} {l:List Rule} (h:Rep w p (.slice a len cap) (rulesD l)) (i:Nat) (hi:i< l.length):
    ∃b off x y,a=some ⟨b,off,none⟩∧b< w.heap.size∧p b∧w.cell? ⟨b,off+i*2,none⟩=some x∧w.cell? ⟨b,off+i*2+1,none⟩=some y∧Rep w p x (strsD l[i].path)∧Rep w p y (strsD l[i].keys):=by
  obtain⟨b,off,ha,hb,hp,hc⟩:=elem_at z_rule h (by omega) i hi
  obtain⟨u,hu,hr⟩:=hc 0 _ rfl
  obtain⟨u1,hu1,hr1⟩:=hc 1 _ rfl
  exact⟨b,off,u,u1,ha,hb,hp,hu,hu1,hr,hr1⟩
theorem node_at {w:World} {p:Nat→Prop} {a:Option Addr} {len cap:Nat} {l:List Node} (h:Rep w p (.slice a len cap) (nodesD l)) (i:Nat) (hi:i< l.length):
    ∃b off x y,a=some ⟨b,off,none⟩∧b< w.heap.size∧p b∧w.cell? ⟨b,off+i*5,none⟩=some (.int .i64 l[i].kind)∧w.cell? ⟨b,off+i*5+1,none⟩=some (.string (bs l[i].name))∧w.cell? ⟨b,off+i*5+2,none⟩=some (.string (bs l[i].text))∧
      w.cell? ⟨b,off+i*5+3,none⟩=some x∧w.cell? ⟨b,off+i*5+4,none⟩=some y∧Rep w p x (attrsD l[i].attrs)∧Rep w p y (nodesD l[i].kids):=by
  obtain⟨b,off,ha,hb,hp,hc⟩:=elem_at z_node h (by omega) i hi
  rw[nodeC_eq]at hc
  obtain⟨u,hu,hr⟩:=hc 0 _ rfl
  obtain⟨u1,hu1,hr1⟩:=hc 1 _ rfl
  obtain⟨u2,hu2,hr2⟩:=hc 2 _ rfl
  obtain⟨u3,hu3,hr3⟩:=hc 3 _ rfl
  obtain⟨u4,hu4,hr4⟩:=hc 4 _ rfl
  exact⟨b,off,u3,u4,ha,hb,hp,by rw[←hr.is];exact hu,by rw[←hr1.is];exact hu1,by rw[←hr2.is];exact hu2,hu3,hu4,hr3,hr4⟩
theorem Rep.len {w:World} {p:Nat→Prop} {u:Value} {l:Bytes} (h:Rep w p u (strD l)):l.length≤9223372036854775807:=by have:=h.bound;rw[bs_size]at this;exact this
theorem attr_len {w:World} {p:Nat→Prop} {v:Value} {l:List Attr} (h:Rep w p v (attrsD l)) (i:Nat) (hi:i< l.length):l[i].n.length≤9223372036854775807∧l[i].v.length≤9223372036854775807:=by
  obtain⟨a,c,rfl,_,_⟩:=h.count z_attr (by omega)
  obtain⟨b,off,ha,hb,hp,hc⟩:=elem_at z_attr h (by omega) i hi
  obtain⟨u,hu,hr⟩:=hc 0 _ rfl
  obtain⟨u1,hu1,hr1⟩:=hc 1 _ rfl
  exact⟨hr.len,hr1.len⟩
theorem node_len {w:World} {p:Nat→Prop} {v:Value} {l:List Node} (h:Rep w p v (nodesD l)) (i:Nat) (hi:i< l.length):l[i].name.length≤9223372036854775807∧l[i].text.length≤9223372036854775807:=by
  obtain⟨a,c,rfl,_,_⟩:=h.count z_node (by omega)
  obtain⟨b,off,ha,hb,hp,hc⟩:=elem_at z_node h (by omega) i hi
  rw[nodeC_eq]at hc
  obtain⟨u,hu,hr⟩:=hc 1 _ rfl
  obtain⟨u1,hu1,hr1⟩:=hc 2 _ rfl
  exact⟨hr.len,hr1.len⟩
section
variable {P:Program} {ops:Array Oper} {Q:Exit→Act→World→Prop} {S:World→Prop} {fuel:Nat} {listed:Array Bool} {a:Act} {w:World}
theorem rg_begin {id:Nat} (hm:P.follows .mixedOrders=true) (hS:S w.drew)
    (h:wpAnyH P .any ops Q S ops.size (Array.replicate ops.size false) a w.drew):(Code.region id ops true).wp P Q a w:=wp_region_held_drew hm hS fun _=>h
theorem rg_skip (i:Nat) (d:Option Tmp) {oi:Oper} (hi:ops[i]? =some oi) (hd:oi.dst=d) (hs:Region.noSelect ops=true) (hf:Region.free .any ops listed i=true) (hr:(Region.ready .any ops listed).contains i=true)
    (hQ:∀c a w,Q (.panic c) (a.put oi.dst undef) w→Q (.panic c) a w) (hS:S w) (hw:Region.wanted oi (yielded ops a.tmps)=false)
    (h:wpAnyH P .any ops Q S fuel (listed.setIfInBounds i true) (a.put d undef) w):wpAnyH P .any ops Q S (fuel+1) listed a w:=
  wpAnyH_take hi hs hf hr hQ (Or.inr ⟨hw,rfl⟩) hS (by rw[hd];exact h)
theorem rg_take (i:Nat) (d:Option Tmp) (v:Value) {oi:Oper} (hi:ops[i]? =some oi) (hd:oi.dst=d) (hs:Region.noSelect ops=true) (hf:Region.free .any ops listed i=true) (hr:(Region.ready .any ops listed).contains i=true)
    (hQ:∀c a w,Q (.panic c) (a.put oi.dst v) w→Q (.panic c) a w) (hS:S w) (hw:Region.wanted oi (yielded ops a.tmps)=true)
    (hv:∀w',S w'→(execOp a.eval oi).run P w'= .ok (.value v) w')
    (h:wpAnyH P .any ops Q S fuel (listed.setIfInBounds i true) (a.put d v) w):wpAnyH P .any ops Q S (fuel+1) listed a w:=
  wpAnyH_take hi hs hf hr hQ (Or.inl ⟨hw,hv⟩) hS (by rw[hd];exact h)
theorem rg_s (i:Nat) (d:Option Tmp) {oi:Oper} (hi:ops[i]? =some oi) (hS:S w) (h:wpAnyH P .any ops Q S fuel (listed.setIfInBounds i true) (a.put d undef) w)
    (hd:oi.dst=d:=by rfl) (hs:Region.noSelect ops=true:=by kernel_rfl) (hf:Region.free .any ops listed i=true:=by kernel_rfl) (hr:(Region.ready .any ops listed).contains i=true:=by kernel_rfl)
    (hQ:∀c a w,Q (.panic c) (a.put oi.dst undef) w→Q (.panic c) a w:=by exact fun _ _ _ h=>h) (hw:Region.wanted oi (yielded ops a.tmps)=false:=by rfl):wpAnyH P .any ops Q S (fuel+1) listed a w:=
  rg_skip i d hi hd hs hf hr hQ hS hw h
theorem rg_t (i:Nat) (d:Option Tmp) (v:Value) {oi:Oper} (hi:ops[i]? =some oi) (hS:S w) (hv:∀w',S w'→(execOp a.eval oi).run P w'= .ok (.value v) w') (h:wpAnyH P .any ops Q S fuel (listed.setIfInBounds i true) (a.put d v) w)
    (hd:oi.dst=d:=by rfl) (hs:Region.noSelect ops=true:=by kernel_rfl) (hf:Region.free .any ops listed i=true:=by kernel_rfl) (hr:(Region.ready .any ops listed).contains i=true:=by kernel_rfl)
    (hQ:∀c a w,Q (.panic c) (a.put oi.dst v) w→Q (.panic c) a w:=by exact fun _ _ _ h=>h) (hw:Region.wanted oi (yielded ops a.tmps)=true:=by rfl):wpAnyH P .any ops Q S (fuel+1) listed a w:=
  rg_take i d v hi hd hs hf hr hQ hS hw hv h
theorem rg_call (i:Nat) (d:Option Tmp) (f:FuncId) (vals:Array Value) {oi:Oper} (hi:ops[i]? =some oi) (hd:oi.dst=d) (hr:Region.ready .any ops listed= [i]) (hw:Region.wanted oi (yielded ops a.tmps)=true)
    (hrun:∀w',(execOp a.eval oi).run P w'= .ok (.enter f vals) w') {R:Value→World→Prop}
    (hc:Calls P f vals w fun e w'=>∃v,e= .returned v∧R v w')
    (h:∀v w',R v w'→S w'∧wpAnyH P .any ops Q S fuel (listed.setIfInBounds i true) (a.put d v) w'):wpAnyH P .any ops Q S (fuel+1) listed a w:=by
  refine wpAnyH_all hr (by simp) fun j hj=> ?_
  obtain rfl:j=i:=by simpa using hj
  unfold wpOp
  simp only[hi,hw,if_true]
  refine Or.inl ?_
  unfold Oper.wp
  rw[hrun w,Oper.upon_enter]
  refine hc.mono fun e w' ⟨v,he,hR⟩=> ?_
  subst he
  dsimp only
  rw[hd]
  exact h v w' hR
theorem rg_step (i:Nat) (d:Option Tmp) (v:Value) (w1:World) {oi:Oper} (hi:ops[i]? =some oi) (hd:oi.dst=d) (hr:Region.ready .any ops listed= [i]) (hw:Region.wanted oi (yielded ops a.tmps)=true)
    (hrun:(execOp a.eval oi).run P w= .ok (.value v) w1)
    (hS:S w1) (h:wpAnyH P .any ops Q S fuel (listed.setIfInBounds i true) (a.put d v) w1):wpAnyH P .any ops Q S (fuel+1) listed a w:=by
  refine wpAnyH_all hr (by simp) fun j hj=> ?_
  obtain rfl:j=i:=by simpa using hj
  unfold wpOp
  simp only[hi,hw,if_true]
  refine Or.inl ?_
  unfold Oper.wp
  rw[hrun,Oper.upon_value,hd]
  exact⟨hS,h⟩
theorem rg_write (i:Nat) (d:Option Tmp) (w1:World) {oi:Oper} (hi:ops[i]? =some oi) (hd:oi.dst=d) (hr:Region.ready .any ops listed= [i]) (hw:Region.wanted oi (yielded ops a.tmps)=true)
    (hrun:(execOp a.eval oi).run P w= .ok .skip w1)
    (hS:S w1) (h:wpAnyH P .any ops Q S fuel (listed.setIfInBounds i true) (a.put d undef) w1):wpAnyH P .any ops Q S (fuel+1) listed a w:=by
  refine wpAnyH_all hr (by simp) fun j hj=> ?_
  obtain rfl:j=i:=by simpa using hj
  unfold wpOp
  simp only[hi,hw,if_true]
  refine Or.inl ?_
  unfold Oper.wp
  rw[hrun,Oper.upon_skip,hd]
  exact⟨hS,h⟩
theorem rg_done (hr:Region.ready .any ops listed= []) (h:Q .normal a w):wpAnyH P .any ops Q S fuel listed a w:=wpAnyH_done hr h fuel
end
def Sx (w0 w':World):Prop:=Ext w0 w'
theorem Sx.cell {w0 w':World} (h:Sx w0 w') {b o:Nat} {v:Value} (hb:b< w0.heap.size) (hc:w0.cell? ⟨b,o,none⟩=some v):w'.cell? ⟨b,o,none⟩=some v:=Ext.keep h hb hc
theorem Sx.begin (w:World):Sx w w.drew:=(Ext.refl w).drew
theorem Sx.ext {w0 w w':World} (h:Sx w0 w) (k:Ext w w'):Sx w0 w':=Ext.trans h k
theorem Sx.alloc {w0 w:World} (h:Sx w0 w) (o:Obj):Sx w0 (w.alloc o):=Ext.alloc h o
theorem sA {α:Type} {l:List α} {i:Nat} {a:α}:l.toArray.setIfInBounds i a=(l.set i a).toArray:=List.setIfInBounds_toArray l i a
theorem sZ {α:Type} {l:List α} {a b:α}:(a::l).set 0 b=b::l:=rfl
theorem sS {α:Type} {l:List α} {n:Nat} {a b:α}:(a::l).set (n+1) b=a::l.set n b:=rfl
open Go.RowKit Go.Extern.Stop Go.Stop Go.Extern
set_option maxRecDepth 100000
set_option linter.unusedSimpArgs false
theorem Lh {p:Prop} (h:p):Hid p:=h
theorem rl_valueOf27 (t:Addr) (w:World):(ReflectliteValue.unpack (.iface 60 (.pointer (some t)))).run Tryz.prog w
    = .ok (.agg #[.pointer (some ⟨7,60,none⟩),.pointer (some ⟨w.heap.size,0,none⟩),.int .u64 150]) (w.alloc (.cells #[.pointer (some t)] 60)):=by kernel_rfl
theorem rl_type27 (a : Addr) (w : World) : (ReflectliteValue.methodAny (ReflectliteValue.valueError "reflectlite.Value.Type" 0) (fun t _ _ _ => ReflectliteType.toType t) #[.agg #[.pointer (some ⟨7, 60, none⟩), .pointer (some a), .int .u64 150]]).run Tryz.prog w
    = .ok (.iface 162 (.agg #[.pointer (some ⟨7,60,none⟩)])) w:=by kernel_rfl
theorem rl_methodKind (h : Value) (w : World) : (Go.method 412 162 (.agg #[h]) "Kind").run Tryz.prog w = .ok (253, h) w := by kernel_rfl
theorem rl_kind27 (w:World):((ReflectliteType.abiMethod fun t=>(fun a:Nat=>Value.int IntKind.u8 (a:Int))<$> Rtype.kind t) #[.pointer (some ⟨7,60,none⟩)]).run Tryz.prog w= .ok (.int .u8 22) w:=by kernel_rfl
theorem rl_kind25 (w:World):((ReflectliteType.abiMethod fun t=>(fun a:Nat=>Value.int IntKind.u8 (a:Int))<$> Rtype.kind t) #[.pointer (some ⟨7,58,none⟩)]).run Tryz.prog w= .ok (.int .u8 22) w:=by kernel_rfl
theorem rlm (z:Sem Value) (f:TypeId→Addr→Nat→Nat→Sem Value) (v:Value):
    ReflectliteValue.method z f #[v]=(do match←ReflectliteValue.parts v with | none=>z | some (t,a,fl)=>f t a fl (fl % 32)):=rfl
theorem rl_parts27 (a:Addr) (w:World):(ReflectliteValue.parts (.agg #[.pointer (some ⟨7,60,none⟩),.pointer (some a),.int .u64 150])).run Tryz.prog w= .ok (some (60,a,150)) w:=by kernel_rfl
theorem rl_isNil27 (a p:Addr) (W:World) (ha:W.cell? a=some (.pointer (some p))):
    (ReflectliteValue.method (ReflectliteValue.valueError "reflectlite.Value.IsNil" 0) ReflectliteValue.isNil #[.agg #[.pointer (some ⟨7, 60, none⟩), .pointer (some a), .int .u64 150]]).run Tryz.prog W = .ok (.bool false) W := by
  rw[rlm]
  simp only[Sem.run_bind,rl_parts27,Result.andThen]
  simp[ReflectliteValue.isNil,loadVar,isAgg,underlying,Tryz.underlying60,ha,Result.andThen]
theorem rl_methodElem (h : Value) (w : World) : (Go.method 412 162 (.agg #[h]) "Elem").run Tryz.prog w = .ok (266, .agg #[h]) w := by kernel_rfl
theorem rl_methodImplements (h : Value) (w : World) : (Go.method 412 162 (.agg #[h]) "Implements").run Tryz.prog w = .ok (267, .agg #[h]) w := by kernel_rfl
theorem rl_methodAssignableTo (h : Value) (w : World) : (Go.method 412 162 (.agg #[h]) "AssignableTo").run Tryz.prog w = .ok (264, .agg #[h]) w := by kernel_rfl
theorem rl_elem27 (w:World):(ReflectliteType.method ReflectliteType.elem #[.agg #[.pointer (some ⟨7,60,none⟩)]]).run Tryz.prog w= .ok (.iface 162 (.agg #[.pointer (some ⟨7,58,none⟩)])) w:=by kernel_rfl
theorem rl_implements25 (w : World) : (ReflectliteType.relation "Implements" ReflectliteType.implements_ #[.agg #[.pointer (some ⟨7, 58, none⟩)], .iface 162 (.agg #[.pointer (some ⟨7, 30, none⟩)])]).run Tryz.prog w = .ok (.bool true) w := by kernel_rfl
theorem rl_typeOf25 (v:Value) (w:World):(ReflectliteType.typeOf #[.iface 58 v]).run Tryz.prog w= .ok (.iface 162 (.agg #[.pointer (some ⟨7,58,none⟩)])) w:=by kernel_rfl
theorem rl_assignable25 (w : World) : (ReflectliteType.relation "AssignableTo" ReflectliteType.assignableTo #[.agg #[.pointer (some ⟨7, 58, none⟩)], .iface 162 (.agg #[.pointer (some ⟨7, 58, none⟩)])]).run Tryz.prog w = .ok (.bool true) w := by kernel_rfl
theorem rl_valueOf25 (e:Addr) (w:World):(ReflectliteValue.unpack (.iface 58 (.pointer (some e)))).run Tryz.prog w
    = .ok (.agg #[.pointer (some ⟨7,58,none⟩),.pointer (some ⟨w.heap.size,0,none⟩),.int .u64 150]) (w.alloc (.cells #[.pointer (some e)] 58)):=by kernel_rfl
theorem rl_elemOf27 (w:World):(Rtype.elem? 60).run Tryz.prog w= .ok (some 58) w:=by kernel_rfl
theorem rl_mk25 (p:Addr) (w:World):(ReflectliteValue.mk 58 p ReflectliteValue.flagAddr).run Tryz.prog w= .ok (.agg #[.pointer (some ⟨7,58,none⟩),.pointer (some p),.int .u64 406]) w:=by kernel_rfl
theorem rl_elemV27 (a p:Addr) (W:World) (ha:W.cell? a=some (.pointer (some p))):
    (ReflectliteValue.method (ReflectliteValue.valueError "reflectlite.Value.Elem" 0) ReflectliteValue.elem #[.agg #[.pointer (some ⟨7, 60, none⟩), .pointer (some a), .int .u64 150]]).run Tryz.prog W
      = .ok (.agg #[.pointer (some ⟨7,58,none⟩),.pointer (some p),.int .u64 406]) W:=by
  rw[rlm]
  simp only[Sem.run_bind,rl_parts27,Result.andThen]
  simp[ReflectliteValue.elem,loadVar,isAgg,underlying,Tryz.underlying60,ha,Result.andThen,rl_elemOf27,rl_mk25]
theorem rls (v x:Value):ReflectliteValue.set #[v,x]=(do
    let(some (dst,a,fl),some (src,b,_)):=(←ReflectliteValue.parts v,←ReflectliteValue.parts x)
      | unsupported (.noEntry "extern/(internal/reflectlite.Value).Set.zeroValue")
    if fl / ReflectliteValue.flagAddr % 2 == 0 then unsupported (.noEntry "extern/(internal/reflectlite.Value).Set.unaddressable")
    let val←loadVar src b
    if←Rtype.directlyAssignable dst src then storeVar dst a val
    else if←Rtype.implements dst src then
      if(←Rtype.kind src)==20 then
        match val with
        | .nilIface => unsupported (.noEntry "extern/reflectlite: a nil value of one interface type handed on as a value of another")
        | _=>storeVar dst a val
      else storeVar dst a (.iface src val)
    else panicString ("reflectlite.Set: value of type " ++ (← Rtype.spelt src) ++ " is not assignable to type " ++ (← Rtype.spelt dst))
    pure (.tuple #[])):=rfl
theorem rl_parts25a (a:Addr) (w:World):(ReflectliteValue.parts (.agg #[.pointer (some ⟨7,58,none⟩),.pointer (some a),.int .u64 406])).run Tryz.prog w= .ok (some (58,a,406)) w:=by kernel_rfl
theorem rl_parts25 (a:Addr) (w:World):(ReflectliteValue.parts (.agg #[.pointer (some ⟨7,58,none⟩),.pointer (some a),.int .u64 150])).run Tryz.prog w= .ok (some (58,a,150)) w:=by kernel_rfl
theorem rl_direct25 (w:World):(Rtype.directlyAssignable 58 58).run Tryz.prog w= .ok true w:=by kernel_rfl
theorem rl_set25 (ta b e:Addr) (old:Value) (W:World) (hb:W.cell? b=some (.pointer (some e))) (ht:W.cell? ta=some old) (hf:W.frozen? ta=false):
    (ReflectliteValue.set #[.agg #[.pointer (some ⟨7,58,none⟩),.pointer (some ta),.int .u64 406],.agg #[.pointer (some ⟨7,58,none⟩),.pointer (some b),.int .u64 150]]).run Tryz.prog W
      = .ok (.tuple #[]) (W.setCell ta (.pointer (some e))):=by
  rw[rls]
  simp only[Sem.run_bind,rl_parts25a,rl_parts25,Result.andThen]
  simp[ReflectliteValue.flagAddr,loadVar,isAgg,underlying,Tryz.underlying58,hb,Result.andThen,rl_direct25,storeVar,Value.cells,storeCells,Addr.add]
  rw[run_store Tryz.prog W ta _ _ (by rfl)]
  simp[ht,hf]
theorem rl_typeOf91 (v:Value) (w:World):(ReflectliteType.typeOf #[.iface 116 v]).run Tryz.prog w= .ok (.iface 162 (.agg #[.pointer (some ⟨7,116,none⟩)])) w:=by kernel_rfl
theorem rl_assignable91 (w : World) : (ReflectliteType.relation "AssignableTo" ReflectliteType.assignableTo #[.agg #[.pointer (some ⟨7, 116, none⟩)], .iface 162 (.agg #[.pointer (some ⟨7, 58, none⟩)])]).run Tryz.prog w = .ok (.bool false) w := by kernel_rfl
theorem rl_ta1 (a:Addr) (w:World):(Instr.typeAssert (.iface 116 (.pointer (some a))) 30 167 true).run Tryz.prog w= .ok (.tuple #[.nilIface,.bool false]) w:=run_typeAssert_lacksB Tryz.underlying167 (by kernel_rfl) (by kernel_rfl) _ _ w
theorem rl_ta2 (a:Addr) (w:World):(Instr.typeAssert (.iface 116 (.pointer (some a))) 30 170 true).run Tryz.prog w= .ok (.tuple #[.iface 116 (.pointer (some a)),.bool true]) w:=run_typeAssert_hasB Tryz.underlying170 (by kernel_rfl) _ _ w
theorem rl_mU (a : Addr) (w : World) : (Go.method 412 116 (.pointer (some a)) "Unwrap").run Tryz.prog w = .ok (261, .pointer (some a)) w := by kernel_rfl
theorem as_wrapped (b1 b2:Nat) (t:Addr) (old:Value) (w:World) (hg:w.cell? ⟨0,0,none⟩=some (.iface 162 (.agg #[.pointer (some ⟨7,30,none⟩)]))) (ht0:w.cell? t=some old) (hf0:w.frozen? t=false) (hb1:b1< w.heap.size) (hu:w.cell? ⟨b1,1,none⟩=some (.iface 58 (.pointer (some ⟨b2,0,none⟩)))):
    Calls Tryz.prog 22 #[.iface 116 (.pointer (some ⟨b1,0,none⟩)),.iface 60 (.pointer (some t))] w fun ev w'=>ev= .returned (.bool true)∧∃W,Ext w W∧w'=W.setCell t (.pointer (some ⟨b2,0,none⟩)):=by
  obtain⟨e,he⟩:∃e:Addr,⟨b2,0,none⟩=e:=⟨_,rfl⟩
  rw[he]at hu⊢
  have h6:= @run_callFunc_extern Tryz.prog 53 _ (fun args=>ReflectliteValue.unpack (args.getD 0 (.tuple #[]))) Tryz.func53 (by kernel_rfl) (by kernel_rfl) (by kernel_rfl) (by kernel_rfl)
  have h7 := @run_callFunc_extern Tryz.prog 54 _ (ReflectliteValue.methodAny (ReflectliteValue.valueError "reflectlite.Value.Type" 0) (fun t _ _ _ => ReflectliteType.toType t)) Tryz.func54 (by kernel_rfl) (by kernel_rfl) (by kernel_rfl) (by kernel_rfl)
  have h8 := @run_callFunc_extern Tryz.prog 55 _ (ReflectliteValue.method (ReflectliteValue.valueError "reflectlite.Value.IsNil" 0) ReflectliteValue.isNil) Tryz.func55 (by kernel_rfl) (by kernel_rfl) (by kernel_rfl) (by kernel_rfl)
  have h27:= @run_callFunc_extern Tryz.prog 253 _ (ReflectliteType.abiMethod fun t=>do pure (.int .u8 (←Rtype.kind t))) Tryz.func253 (by kernel_rfl) (by kernel_rfl) (by kernel_rfl) (by kernel_rfl)
  have h37:= @run_callFunc_extern Tryz.prog 266 _ (ReflectliteType.method ReflectliteType.elem) Tryz.func266 (by kernel_rfl) (by kernel_rfl) (by kernel_rfl) (by kernel_rfl)
  have h38 := @run_callFunc_extern Tryz.prog 267 _ (ReflectliteType.relation "Implements" ReflectliteType.implements_) Tryz.func267 (by kernel_rfl) (by kernel_rfl) (by kernel_rfl) (by kernel_rfl)
  have h10:= @run_callFunc_extern Tryz.prog 99 _ ReflectliteType.typeOf Tryz.func99 (by kernel_rfl) (by kernel_rfl) (by kernel_rfl) (by kernel_rfl)
  have h35 := @run_callFunc_extern Tryz.prog 264 _ (ReflectliteType.relation "AssignableTo" ReflectliteType.assignableTo) Tryz.func264 (by kernel_rfl) (by kernel_rfl) (by kernel_rfl) (by kernel_rfl)
  have h11 := @run_callFunc_extern Tryz.prog 100 _ (ReflectliteValue.method (ReflectliteValue.valueError "reflectlite.Value.Elem" 0) ReflectliteValue.elem) Tryz.func100 (by kernel_rfl) (by kernel_rfl) (by kernel_rfl) (by kernel_rfl)
  have h12:= @run_callFunc_extern Tryz.prog 101 _ ReflectliteValue.set Tryz.func101 (by kernel_rfl) (by kernel_rfl) (by kernel_rfl) (by kernel_rfl)
  have tO:=rl_typeOf25
  have mA:=rl_methodAssignableTo
  have a25:=rl_assignable25
  have v25:=rl_valueOf25
  have f6:=rl_valueOf27
  have f7:=rl_type27
  have mK:=rl_methodKind
  have mE:=rl_methodElem
  have mI:=rl_methodImplements
  have k27:=rl_kind27
  have k25:=rl_kind25
  have e27:=rl_elem27
  have i25:=rl_implements25
  have n8:=rl_isNil27 ⟨w.heap.size,0,none⟩ t ((w.alloc (.cells #[.pointer (some t)] 60)).alloc (.cells #[.pointer (some ⟨7,60,none⟩),.pointer (some ⟨w.heap.size,0,none⟩),.int .u64 150] 104)) (by simp)
  have hlt:0< w.heap.size:=by
    rcases Nat.eq_zero_or_pos w.heap.size with h0 | h
    · simp[World.cell?,h0]at hg
    · exact h
  have hg2:((w.alloc (.cells #[.pointer (some t)] 60)).alloc (.cells #[.pointer (some ⟨7,60,none⟩),.pointer (some ⟨w.heap.size,0,none⟩),.int .u64 150] 104)).cell? ⟨0,0,none⟩=some (.iface 162 (.agg #[.pointer (some ⟨7,30,none⟩)])):=by
    rw[World.cell?_alloc_lt _ _ ⟨0,0,none⟩ (by simp),World.cell?_alloc_lt _ _ ⟨0,0,none⟩ hlt];exact hg
  have htl:t.block< w.heap.size:=by
    rcases Nat.lt_or_ge t.block w.heap.size with h | h
    · exact h
    · simp[World.cell?,Array.getElem?_eq_none h]at ht0
  have el:=rl_elemV27 ⟨w.heap.size,0,none⟩ t (((w.alloc (.cells #[.pointer (some t)] 60)).alloc (.cells #[.pointer (some ⟨7,60,none⟩),.pointer (some ⟨w.heap.size,0,none⟩),.int .u64 150] 104)).alloc (.cells #[.pointer (some ⟨7,60,none⟩),.pointer (some ⟨w.heap.size,0,none⟩),.int .u64 150] 104)) (by rw[World.cell?_alloc_lt _ _ ⟨w.heap.size,0,none⟩ (by simp;omega)];simp)
  have st:=rl_set25 t ⟨w.heap.size+1+1+1,0,none⟩ e old ((((w.alloc (.cells #[.pointer (some t)] 60)).alloc (.cells #[.pointer (some ⟨7,60,none⟩),.pointer (some ⟨w.heap.size,0,none⟩),.int .u64 150] 104)).alloc (.cells #[.pointer (some ⟨7,60,none⟩),.pointer (some ⟨w.heap.size,0,none⟩),.int .u64 150] 104)).alloc (.cells #[.pointer (some e)] 58))
    (by rw[World.cell?_alloc_at _ _ _ _ (by simp)];rfl)
    (by rw[World.cell?_alloc_lt _ _ t (by simp;omega),World.cell?_alloc_lt _ _ t (by simp;omega),World.cell?_alloc_lt _ _ t (by simp;omega),World.cell?_alloc_lt _ _ t htl];exact ht0)
    (by rw[World.frozen?_alloc_old _ _ t (by simp;omega),World.frozen?_alloc_old _ _ t (by simp;omega),World.frozen?_alloc_old _ _ t (by simp;omega),World.frozen?_alloc_old _ _ t (Nat.ne_of_lt htl)];exact hf0)
  have tO9:=rl_typeOf91
  have a9:=rl_assignable91
  have ta1:=rl_ta1
  have ta2:=rl_ta2
  have mU:=rl_mU
  have hu3:(((w.alloc (.cells #[.pointer (some t)] 60)).alloc (.cells #[.pointer (some ⟨7,60,none⟩),.pointer (some ⟨w.heap.size,0,none⟩),.int .u64 150] 104)).alloc (.cells #[.pointer (some ⟨7,60,none⟩),.pointer (some ⟨w.heap.size,0,none⟩),.int .u64 150] 104)).cell? ⟨b1,1,none⟩=some (.iface 58 (.pointer (some e))):=by
    rw[World.cell?_alloc_lt _ _ ⟨b1,1,none⟩ (by simp;omega),World.cell?_alloc_lt _ _ ⟨b1,1,none⟩ (by simp;omega),World.cell?_alloc_lt _ _ ⟨b1,1,none⟩ hb1];exact hu
  go_enter Tryz.func22,Tryz.ntmps22
  go_wp2
  refine wp_loop_rounds 2 ?_
  rw[rounds_succ]
  go_wp2
  rw[rounds_succ]
  go_wp2
  go_ret
  exact⟨rfl,_,((((Ext.refl w).alloc _).alloc _).alloc _).alloc _,rfl⟩
end Go.Proofs.YtcfibjiikhnfhaaGreatDoor
