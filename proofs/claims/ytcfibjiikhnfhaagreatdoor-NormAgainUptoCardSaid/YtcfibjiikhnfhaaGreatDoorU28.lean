/-
 What an argument reads as,opened:slices of structs of slices,as plain data,with their bulk. Helper lemmas;no statement of the seat is proved here.
-/
import Derived.Test.YtcfibjiikhnfhaaGreatDoorU27
import Derived.OpenShut
import Derived.Test.YtcfibjiikhnfhaaGreatDoorRows
import Derived.Deep.Slices
import Derived.Test.YtcfibjiikhnfhaaGreatDoorCards
import Derived.Test.YtcfibjiikhnfhaaGreatDoorTie
import Derived.ReadAgain
import Derived.ChangeSame
import Derived.ProofKit
import Derived.Deep.DeepHandedRow
import Derived.Deep.DeepWitnessRowRef
import Derived.Lib.LaidTab
import Derived.Lib.LaidU8
import Derived.Lib.LaidU8T
import Derived.LaidMore
import Derived.Deep.DeepLaidRun
import Derived.Lib.LaidCase
import Derived.PinnedBridge
import Derived.Lay
import Derived.Shelf.Vars
namespace Go.Proofs.YtcfibjiikhnfhaaGreatDoor
open Go.RowKit Go.Deep
set_option maxHeartbeats 32000000
set_option linter.unusedVariables false
theorem cell_spot {w:World} {a:Addr} {v:Value} (h:w.cell? a=some v):a.spot=none:=by
 unfold World.cell? at h
 split at h
 ·
  split at h
  ·
   cases h
  ·
   rename_i h2;simpa using h2
 ·
  cases h
def QLd {H:Type} {α:Type} (Q:α→DataW H→Prop) (l:List α) (es:List (DataW H)):Prop:=es.length=l.length∧∀(i:Nat) (y:α) (e:DataW H),l[i]? =some y→es[i]? =some e→Q y e
def QSd {H:Type} {α:Type} (Q:α→DataW H→Prop) (l:List α) (d:DataW H):Prop:=(l= []∧d= .nil)∨∃es sp,d= .slice es sp∧QLd Q l es
theorem pieces {α:Type} (z:Nat) (F:Nat→List α):∀(n:Nat),(∀i,i< n→(F i).length=z)→((List.range n).flatMap F).length=n*z∧∀(k:Nat) (u:α),((List.range n).flatMap F)[k]? =some u→∃i j,i< n∧j< z∧k=i*z+j∧(F i)[j]? =some u
 | 0,_=>by simp
 | n+1,h=>by
  obtain⟨h1,h2⟩:=pieces z F n fun i hi=>h i (by omega)
  rw[List.range_succ,List.flatMap_append]
  have e1: [n].flatMap F=F n:=by simp
  rw[e1]
  refine⟨by rw[List.length_append,h1,h n (by omega),Nat.add_mul];omega,fun k u hk=> ?_⟩
  by_cases hlt:k< n*z
  ·
   rw[List.getElem?_append_left (by rw[h1];exact hlt)]at hk
   obtain⟨i,j,a,b,c,d⟩:=h2 k u hk
   exact⟨i,j,by omega,b,c,d⟩
  ·
   rw[List.getElem?_append_right (by rw[h1];omega),h1]at hk
   have hz:k - n*z< z:=by have:=(List.getElem?_eq_some_iff.1 hk).1;rw[h n (by omega)]at this;exact this
   exact⟨n,k - n*z,by omega,hz,by omega,hk⟩
theorem reps_pieces {w:World} {p:Nat→Prop} {α:Type} (f:α→List DV) (CS:Nat→List Value) (Y:Nat→α):∀(n:Nat),(∀i,i< n→Reps w p (CS i) (f (Y i)))→Reps w p ((List.range n).flatMap CS) (((List.range n).map Y).flatMap f)
 | 0,_=>Reps.nil _ _
 | n+1,h=>by
  rw[List.range_succ,List.flatMap_append,List.map_append,List.flatMap_append]
  have e1: [n].flatMap CS=CS n:=by simp
  have e2:([n].map Y).flatMap f=f (Y n):=by simp
  rw[e1,e2]
  exact(reps_pieces f CS Y n fun i hi=>h i (by omega)).append (h n (by omega))
section
variable {H:Type} {enc:TypeId×Value→H} {P:Program} {w:World} {base:Nat} {held:Bool}
theorem open_rep {α:Type} [Inhabited α] {f:α→List DV} {z:Nat} (hf:∀y,(f y).length=z) {t e:TypeId} (Q:α→DataW H→Prop) (ht:P.underlying t=some (.slice e)) (hc:P.cellsOf e=z) (hz:0< z) {fuel:Nat} {cs:List Value} {x:DataW H×List MemPlace}
  (hel:∀n cs x,n< fuel→DataW.trod enc P w base (fun _=>true) held n e cs=some x→∃y:α,Reps w (fun _=>True) cs (f y)∧Q y x.1)
  (h:DataW.trod enc P w base (fun _=>true) held fuel t cs=some x):∃(v:Value) (l:List α),cs= [v]∧Rep w (fun _=>True) v (.s z (l.flatMap f))∧QSd Q l x.1:=by
 rcases DataW.trod_slice ht h with⟨rfl,rfl⟩ | ⟨a,len,cap,elems,rest,n,hn,rfl,rfl,hb,hl,hm,hlen,hall,hsp,hns⟩
 ·
  exact⟨_,[],rfl,.nil z,.inl ⟨rfl,rfl⟩⟩
 ·
  have each:∀i,i< len→∃q:α×List Value,w.cells? base (a.add (i*z)) z=some q.2∧Reps w (fun _=>True) q.2 (f q.1)∧∀e',elems[i]? =some e'→Q q.1 e'.1:=fun i hi=>by
   have h1:=hall i hi
   have h2:elems[i]? =some elems[i]:=List.getElem?_eq_getElem (by omega)
   rw[h2]at h1
   obtain⟨cs',h3,h4⟩:=Option.bind_eq_some_iff.1 h1
   obtain⟨y,h5,h6⟩:=hel n cs' _ (by omega) h4
   rw[hc]at h3
   exact⟨(y,cs'),h3,h5,fun e' he'=>by rw[h2]at he';cases he';exact h6⟩
  obtain⟨q,hq⟩:=choose_lt (α:=α×List Value) each
  refine⟨_,(List.range len).map fun i=>(q i).1,rfl,?_,.inr ⟨_,_,rfl,by rw[List.length_map,List.length_map,List.length_range,hlen],fun i y e' hy he=> ?_⟩⟩
  rotate_left
  ·
   rw[List.getElem?_map]at hy he
   obtain⟨i',hi',rfl⟩:=Option.map_eq_some_iff.1 hy
   obtain⟨e2,he2,rfl⟩:=Option.map_eq_some_iff.1 he
   have hlt:=(List.getElem?_eq_some_iff.1 hi').1
   rw[List.length_range]at hlt
   rw[List.getElem?_range hlt]at hi'
   cases hi'
   exact(hq i hlt).2.2 e2 he2
  ·
   have hcell:∀i,i< len→(q i).2.length=z∧∀j u,(q i).2[j]? =some u→w.cell? ((a.add (i*z)).add j)=some u:=fun i hi=>by
    obtain⟨_,h2,h3⟩:=World.cells?_some (hq i hi).1
    refine⟨h2,fun j u hj=> ?_⟩
    have hjz:j< z:=by have:=(List.getElem?_eq_some_iff.1 hj).1;omega
    rw[h3 j hjz];exact hj
   have hadd0:a.add (0*z)=a:=by rw[Nat.zero_mul];unfold Addr.add;rw[if_pos rfl]
   have hspot:0< cap→a.spot=none:=fun hcap=>by
    by_cases hl0:0< len
    ·
     obtain⟨h2,h3⟩:=hcell 0 hl0
     have h4:=h3 0 _ (List.getElem?_eq_getElem (by omega))
     rw[hadd0]at h4
     have e:a.add 0=a:=by unfold Addr.add;rw[if_pos rfl]
     rw[e]at h4
     exact cell_spot h4
    ·
     have hs:=(hsp rfl).2 0 (by omega)
     have hlen0:len=0:=by omega
     have hr:rest.length=cap - len:=(hsp rfl).1
     rw[List.getElem?_eq_getElem (by omega)]at hs
     obtain⟨cs',h3,_⟩:=Option.bind_eq_some_iff.1 hs
     rw[hlen0,hc,show 0+0=0 from rfl,hadd0]at h3
     obtain⟨_,h5,h6⟩:=World.cells?_some h3
     have h7:=h6 0 hz
     have e:a.add 0=a:=by unfold Addr.add;rw[if_pos rfl]
     rw[e,List.getElem?_eq_getElem (by omega)]at h7
     exact cell_spot h7
   by_cases hcap:0< cap
   ·
    obtain⟨b,o,sp⟩:=a
    have:=hspot hcap
    simp only at this
    subst this
    obtain⟨hpl,hpc⟩:=pieces z (fun i=>(q i).2) len fun i hi=>(hcell i hi).1
    have hr:=reps_pieces f (fun i=>(q i).2) (fun i=>(q i).1) len fun i hi=>(hq i hi).2.1
    refine .row b o len cap z ((List.range len).flatMap fun i=>(q i).2) _ (fun _=>trivial) (by rw[flat_len f z hf,List.length_map,List.length_range]) hpl hl (by unfold maxLen at hm;omega) (fun k u hk=> ?_) hr.2
    obtain⟨i,j,hi,hj,rfl,hu⟩:=hpc k u hk
    have h8:=(hcell i hi).2 j u hu
    have e1:((⟨b,o,none⟩:Addr).add (i*z)).add j=⟨b,o+(i*z+j),none⟩:=by
     have ha:∀(o j:Nat),(⟨b,o,none⟩:Addr).add j=⟨b,o+j,none⟩:=fun o j=>by unfold Addr.add;split<;> simp_all
     rw[ha,ha,Nat.add_assoc]
    rw[e1]at h8;exact h8
   ·
    obtain rfl:cap=0:=by omega
    obtain rfl:len=0:=by omega
    exact .emp a z
theorem open_fields {t:TypeId} {fs:Array Field} (ht:P.underlying t=some (.struct fs)) (hsz:P.cellsOf t=fs.size) (hoff:∀(i:Nat) (f:Field),fs[i]? =some f→f.offset=i∧P.cellsOf f.type=1) {spare:Nat→Bool} {fuel:Nat} {cs:List Value} {x:DataW H×List MemPlace}
  (h:DataW.trod enc P w base spare held fuel t cs=some x):∃(xs:List (DataW H×List MemPlace)) (n:Nat),n< fuel∧x.1= .agg (xs.map (·.1))∧cs.length=fs.size∧xs.length=fs.size∧
   ∀(i:Nat) (f:Field),fs[i]? =some f→∃v y,cs[i]? =some v∧xs[i]? =some y∧DataW.trod enc P w base spare held n f.type [v]=some y:=by
 obtain⟨xs,n,h1,h2,h3,h4,h5⟩:=DataW.trod_struct ht h
 refine⟨xs,n,by omega,by rw[h2],by rw[h3,hsz],h4,fun i f hf=> ?_⟩
 have hi:i< fs.size:=by
  rcases Nat.lt_or_ge i fs.size with h' | h'
  ·
   exact h'
  ·
   rw[Array.getElem?_eq_none h']at hf;cases hf
 obtain⟨ho,hcf⟩:=hoff i f hf
 have h6:=h5 i f hf
 rw[ho,hcf,List.getElem?_eq_getElem (show i< xs.length by omega)]at h6
 have hics:i< cs.length:=by rw[h3,hsz];exact hi
 have e:(cs.drop i).take 1= [cs[i]]:=by rw[List.drop_eq_getElem_cons hics];rfl
 rw[e]at h6
 exact⟨cs[i],xs[i],List.getElem?_eq_getElem hics,List.getElem?_eq_getElem (show i< xs.length by omega),h6⟩
end
section
variable {H:Type} {enc:TypeId×Value→H} {w:World} {base:Nat} {held:Bool}
instance:Inhabited Attr:=⟨⟨[],[]⟩⟩
instance:Inhabited Step:=⟨⟨[],[]⟩⟩
instance:Inhabited Rule:=⟨⟨[],[]⟩⟩
instance:Inhabited Node:=⟨zeroN⟩
def QBd (y:Bytes) (d:DataW H):Prop:=d= .lit (.string y)
def QAd (a:Attr) (d:DataW H):Prop:=d= .agg [.lit (.string a.n),.lit (.string a.v)]
def QRd (r:Rule) (d:DataW H):Prop:=∃d1 d2,d= .agg [d1,d2]∧QSd QBd r.path d1∧QSd QBd r.keys d2
def QNd (n:Node) (d:DataW H):Prop:=cntN n≤Rows.uptoBulk d
theorem bs_data (s:ByteArray):bs s.data.toList=s:=by cases s;simp[bs]
theorem open_bytes {t:TypeId} (ht:Tryz.prog.underlying t=some .string) {spare:Nat→Bool} {n:Nat} {v:Value} {x:DataW H×List MemPlace} (h:DataW.trod enc Tryz.prog w base spare held n t [v]=some x):∃y:Bytes,Rep w (fun _=>True) v (strD y)∧x.1= .lit (.string y):=by
 obtain⟨s,h1,h2,h3⟩:=DataW.trod_string ht h
 cases h1
 refine⟨s.data.toList,?_,by rw[h2]⟩
 unfold strD
 rw[bs_data]
 exact Rep.string _ _ _ (by unfold maxLen at h3;omega)
theorem open_texts {n:Nat} {cs:List Value} {x:DataW H×List MemPlace} (h:DataW.trod enc Tryz.prog w base (fun _=>true) held n 51 cs=some x):∃(v:Value) (l:List Bytes),cs= [v]∧Rep w (fun _=>True) v (strsD l)∧QSd QBd l x.1:=
 open_rep (f:=fun x=> [strD x]) (z:=1) z_str QBd Tryz.underlying51 (by kernel_rfl) (by omega) (fun n cs x _ h=>by
  obtain⟨s,rfl,_⟩:=DataW.trod_string Tryz.underlying9 h
  obtain⟨y,h1,h2⟩:=open_bytes Tryz.underlying9 h
  exact⟨y,Reps.cons h1 (Reps.nil _ _),h2⟩) h
theorem open_attr {n:Nat} {cs:List Value} {x:DataW H×List MemPlace} (h:DataW.trod enc Tryz.prog w base (fun _=>true) held n 114 cs=some x):∃a:Attr,Reps w (fun _=>True) cs (attrC a)∧QAd a x.1:=by
 obtain⟨xs,m,_,hx,hl,hxl,hf⟩:=open_fields Tryz.underlying114 (by kernel_rfl) (by intro i f hf;match i,hf with | 0,hf=>cases hf;exact⟨rfl,by kernel_rfl⟩ | 1,hf=>cases hf;exact⟨rfl,by kernel_rfl⟩ | i+2,hf=>simp at hf) h
 obtain⟨v0,y0,a0,b0,c0⟩:=hf 0 _ rfl
 obtain⟨v1,y1,a1,b1,c1⟩:=hf 1 _ rfl
 match cs,hl,xs,hxl with
 | [_,_],_,[_,_],_=>
  cases a0;cases a1;cases b0;cases b1
  obtain⟨n0,r0,e0⟩:=open_bytes Tryz.underlying9 c0
  obtain⟨n1,r1,e1⟩:=open_bytes Tryz.underlying9 c1
  exact⟨⟨n0,n1⟩,Reps.cons r0 (Reps.cons r1 (Reps.nil _ _)),by rw[hx];simp[QAd,e0,e1]⟩
theorem open_attrs {n:Nat} {cs:List Value} {x:DataW H×List MemPlace} (h:DataW.trod enc Tryz.prog w base (fun _=>true) held n 23 cs=some x):∃(v:Value) (l:List Attr),cs= [v]∧Rep w (fun _=>True) v (attrsD l)∧QSd QAd l x.1:=
 open_rep z_attr QAd Tryz.underlying23 (by kernel_rfl) (by omega) (fun n cs x _ h=>open_attr h) h
theorem open_rule {n:Nat} {cs:List Value} {x:DataW H×List MemPlace} (h:DataW.trod enc Tryz.prog w base (fun _=>true) held n 53 cs=some x):∃a:Rule,Reps w (fun _=>True) cs (ruleC a)∧QRd a x.1:=by
 obtain⟨xs,m,_,hx,hl,hxl,hf⟩:=open_fields Tryz.underlying53 (by kernel_rfl) (by intro i f hf;match i,hf with | 0,hf=>cases hf;exact⟨rfl,by kernel_rfl⟩ | 1,hf=>cases hf;exact⟨rfl,by kernel_rfl⟩ | i+2,hf=>simp at hf) h
 obtain⟨v0,y0,a0,b0,c0⟩:=hf 0 _ rfl
 obtain⟨v1,y1,a1,b1,c1⟩:=hf 1 _ rfl
 match cs,hl,xs,hxl with
 | [_,_],_,[_,_],_=>
  cases a0;cases a1;cases b0;cases b1
  obtain⟨v,k,e,r1,q1⟩:=open_texts c0
  cases e
  obtain⟨v,k',e,r2,q2⟩:=open_texts c1
  cases e
  exact⟨⟨k,k'⟩,Reps.cons r1 (Reps.cons r2 (Reps.nil _ _)),_,_,by rw[hx];simp,q1,q2⟩
theorem open_rules {n:Nat} {cs:List Value} {x:DataW H×List MemPlace} (h:DataW.trod enc Tryz.prog w base (fun _=>true) held n 22 cs=some x):∃(v:Value) (l:List Rule),cs= [v]∧Rep w (fun _=>True) v (rulesD l)∧QSd QRd l x.1:=
 open_rep z_rule QRd Tryz.underlying22 (by kernel_rfl) (by omega) (fun n cs x _ h=>open_rule h) h
-- bulk
theorem bulk_attrs:∀(l:List Attr) (es:List (DataW H)),QLd QAd l es→cntA l≤Rows.uptoBulkAll es
 | [],[],_=>Nat.le_refl _
 | [],_::_,h=>by have:=h.1;simp at this
 | _::_,[],h=>by have:=h.1;simp at this
 | a::l,e::es,h=>by
  have h1:=h.2 0 a e rfl rfl
  have h2:=bulk_attrs l es ⟨by have:=h.1;simpa using this,fun i y e' hy he=>h.2 (i+1) y e' (by simpa using hy) (by simpa using he)⟩
  rw[cntA,Rows.uptoBulkAll,h1]
  simp only[Rows.uptoBulk,Rows.uptoBulkAll]
  omega
theorem bulk_nodes:∀(l:List Node) (es:List (DataW H)),QLd QNd l es→cntL l≤Rows.uptoBulkAll es
 | [],[],_=>Nat.le_refl _
 | [],_::_,h=>by have:=h.1;simp at this
 | _::_,[],h=>by have:=h.1;simp at this
 | a::l,e::es,h=>by
  have h1:=h.2 0 a e rfl rfl
  have h2:=bulk_nodes l es ⟨by have:=h.1;simpa using this,fun i y e' hy he=>h.2 (i+1) y e' (by simpa using hy) (by simpa using he)⟩
  rw[cntL,Rows.uptoBulkAll]
  unfold QNd at h1
  omega
theorem bulk_slice {α:Type} {Q:α→DataW H→Prop} {l:List α} {d:DataW H} (m:List α→Nat) (h0:m []=0) (hm:∀es,QLd Q l es→m l≤Rows.uptoBulkAll es) (h:QSd Q l d):m l+1≤Rows.uptoBulk d:=by
 rcases h with⟨rfl,rfl⟩ | ⟨es,sp,rfl,hq⟩
 ·
  rw[h0];simp[Rows.uptoBulk]
 ·
  have:=hm es hq;simp only[Rows.uptoBulk];omega
theorem open_node:∀(N:Nat) {n:Nat} {cs:List Value} {x:DataW H×List MemPlace},n≤N→DataW.trod enc Tryz.prog w base (fun _=>true) held n 26 cs=some x→∃a:Node,Reps w (fun _=>True) cs (nodeC a)∧QNd a x.1:=by
 intro N
 induction N with
 | zero=>
  intro n cs x hn h
  obtain rfl:n=0:=(by omega)
  simp[DataW.trod]at h
 | succ N ih=>
  intro n cs x hn h
  obtain⟨xs,m,hm,hx,hl,hxl,hf⟩:=open_fields Tryz.underlying26 (by kernel_rfl) (by intro i f hf;match i,hf with | 0,hf=>cases hf;exact⟨rfl,by kernel_rfl⟩ | 1,hf=>cases hf;exact⟨rfl,by kernel_rfl⟩ | 2,hf=>cases hf;exact⟨rfl,by kernel_rfl⟩ | 3,hf=>cases hf;exact⟨rfl,by kernel_rfl⟩ | 4,hf=>cases hf;exact⟨rfl,by kernel_rfl⟩ | i+5,hf=>simp at hf) h
  obtain⟨v0,y0,a0,b0,c0⟩:=hf 0 _ rfl
  obtain⟨v1,y1,a1,b1,c1⟩:=hf 1 _ rfl
  obtain⟨v2,y2,a2,b2,c2⟩:=hf 2 _ rfl
  obtain⟨v3,y3,a3,b3,c3⟩:=hf 3 _ rfl
  obtain⟨v4,y4,a4,b4,c4⟩:=hf 4 _ rfl
  match cs,hl,xs,hxl with
  | [_,_,_,_,_],_,[_,_,_,_,_],_=>
   cases a0;cases a1;cases a2;cases a3;cases a4;cases b0;cases b1;cases b2;cases b3;cases b4
   obtain⟨k,e,e0,_⟩:=DataW.trod_int Tryz.underlying3 c0
   cases e
   obtain⟨n1,r1,e1⟩:=open_bytes Tryz.underlying9 c1
   obtain⟨n2,r2,e2⟩:=open_bytes Tryz.underlying9 c2
   obtain⟨v,la,e,r3,q3⟩:=open_attrs c3
   cases e
   obtain⟨v,ks,e,r4,q4⟩:=open_rep z_node QNd Tryz.underlying24 (by kernel_rfl) (by omega) (fun n' cs' x' hn' h'=>ih (by omega) h') c4
   cases e
   refine⟨.mk k n1 n2 la ks,?_,?_⟩
   ·
    rw[nodeC_eq]
    exact Reps.cons (Rep.int _ _ _ _) (Reps.cons r1 (Reps.cons r2 (Reps.cons r3 (Reps.cons r4 (Reps.nil _ _)))))
   ·
    have h3:=bulk_slice cntA rfl (fun es=>bulk_attrs la es) q3
    have h4:=bulk_slice cntL rfl (fun es=>bulk_nodes ks es) q4
    unfold QNd
    rw[hx,cntN]
    simp only[List.map_cons,List.map_nil,e0,e1,e2,Rows.uptoBulk,Rows.uptoBulkAll]
    omega
theorem ql_len {α:Type} {Q:α→DataW H→Prop} {l:List α} {es:List (DataW H)} (h:QLd Q l es):l.length≤Rows.uptoBulkAll es:=by
 have h1:∀es:List (DataW H),es.length≤Rows.uptoBulkAll es:=fun es=>by
  induction es with
  | nil=>simp[Rows.uptoBulkAll]
  | cons e r ih=>
   rw[Rows.uptoBulkAll,List.length_cons]
   have:1≤Rows.uptoBulk e:=by
    cases e with
    | lit l=>cases l<;> simp[Rows.uptoBulk]
    | _=>simp[Rows.uptoBulk]
   omega
 rw[←h.1];exact h1 es
theorem part_le:∀(es:List (DataW H)) (e:DataW H),e∈es→Rows.uptoBulk e≤Rows.uptoBulkAll es
 | [],_,h=>by cases h
 | a::r,e,h=>by
  rw[Rows.uptoBulkAll]
  rcases List.mem_cons.1 h with h | h
  ·
   rw[h];omega
  ·
   have:=part_le r e h;omega
theorem qs_len {α:Type} {Q:α→DataW H→Prop} {l:List α} {d:DataW H} (h:QSd Q l d):l.length≤Rows.uptoBulk d:=by
 have:=bulk_slice List.length rfl (fun es=>ql_len (es:=es)) h;omega
theorem qs_mem {α:Type} {Q:α→DataW H→Prop} {l:List α} {d:DataW H} (h:QSd Q l d) (y:α) (hy:y∈l):∃e,Q y e∧Rows.uptoBulk e≤Rows.uptoBulk d:=by
 rcases h with⟨rfl,rfl⟩ | ⟨es,sp,rfl,hq⟩
 ·
  cases hy
 ·
  obtain⟨i,hi,rfl⟩:=List.mem_iff_getElem.1 hy
  have hie:i< es.length:=by rw[hq.1];exact hi
  refine⟨es[i],hq.2 i _ _ (List.getElem?_eq_getElem hi) (List.getElem?_eq_getElem hie),?_⟩
  have:=part_le es es[i] (List.getElem_mem hie)
  simp only[Rows.uptoBulk];omega
theorem texts_bulk {l:List Bytes} {d:DataW H} (h:QSd QBd l d) (y:Bytes) (hy:y∈l):y.length≤Rows.uptoBulk d:=by
 obtain⟨e,he,hb⟩:=qs_mem h y hy
 have he':e= .lit (.string y):=he
 rw[he']at hb
 simp only[Rows.uptoBulk]at hb;omega
theorem rules_b {l:List Rule} {d:DataW H} (h:QSd QRd l d) (hd:Rows.uptoBulk d≤1048576):∀r∈l,r.path.length≤1048576∧r.keys.length≤1048576∧(∀x∈r.path,x.length≤1048576)∧∀x∈r.keys,x.length≤1048576:=fun r hr=>by
 obtain⟨e,⟨d1,d2,rfl,q1,q2⟩,hb⟩:=qs_mem h r hr
 simp only[Rows.uptoBulk,Rows.uptoBulkAll]at hb
 have h1:=qs_len q1
 have h2:=qs_len q2
 exact⟨by omega,by omega,fun x hx=>by have:=texts_bulk q1 x hx;omega,fun x hx=>by have:=texts_bulk q2 x hx;omega⟩
theorem open_nodeV {n:Nat} {cs:List Value} {x:DataW H×List MemPlace} (h:DataW.trod enc Tryz.prog w base (fun _=>true) held n 26 cs=some x):∃(a:Node) (va vk:Value),cs= [.int .i64 a.kind,.string (bs a.name),.string (bs a.text),va,vk]∧Rep w (fun _=>True) va (attrsD a.attrs)∧Rep w (fun _=>True) vk (nodesD a.kids)∧QNd a x.1:=by
 obtain⟨a,hr,hq⟩:=open_node n (Nat.le_refl _) h
 rw[nodeC_eq]at hr
 have hl:cs.length=5:=hr.1
 match cs,hl with
 | [c0,c1,c2,c3,c4],_=>
  have r0:Rep w (fun _=>True) c0 (intD a.kind):=hr.2 0 _ _ rfl rfl
  have r1:Rep w (fun _=>True) c1 (strD a.name):=hr.2 1 _ _ rfl rfl
  have r2:Rep w (fun _=>True) c2 (strD a.text):=hr.2 2 _ _ rfl rfl
  refine⟨a,c3,c4,?_,hr.2 3 _ _ rfl rfl,hr.2 4 _ _ rfl rfl,hq⟩
  rw[Rep.is r0,Rep.is r1,Rep.is r2]
end
set_option maxRecDepth 100000
open Go.ChangeShapes Go.WideShapes Go.ChangeAt Go.RowKit
theorem typesN:Tryz.prog.types.size=312:=by kernel_rfl
theorem own:ownKnob Tryz.prog.godebug=none:=by kernel_rfl
theorem gErr : Tryz.prog.globalNamed "errors.errorType" = some 0 := by kernel_rfl
theorem cutRt : (Tryz.prog.cutTypes.find? (·.1 == "internal/reflectlite.rtype")).map (·.2) = some 162 := by kernel_rfl
theorem oneRow:((List.range 312).filter fun t=>Tryz.prog.rowNamed t [101,114,114,111,114])= [30]:=by kernel_rfl
def laidN:List (String×DataW Unit):=Rows.normAgainRow.laid
theorem globE_of {W:World} (h:laidMetH Tryz.prog laidN W):GlobE W:=by
 have h' : laidMet Tryz.prog (laidN.filter fun x => x.2.handleName?.isNone) W ∧ handlesMet Tryz.prog [("errors.errorType", Rows.laid_errors_errorType)] W := h
 obtain⟨name,u,ty,e1,e2,e3,e4,e5⟩:=h'.2 _ (List.mem_singleton.2 rfl)
 have en:name= [101,114,114,111,114]:=(Option.some.inj e1).symm
 subst en
 obtain rfl:=Option.some.inj (cutRt.symm.trans e2)
 have hm:ty∈(List.range 312).filter fun t=>Tryz.prog.rowNamed t [101,114,114,111,114]:=List.mem_filter.2 ⟨List.mem_range.2 (by rw[←typesN];exact e3),e4⟩
 rw[oneRow]at hm
 obtain rfl:=List.mem_singleton.1 hm
 have hh:typeHandle Tryz.prog 30= .pointer (some ⟨7,30,none⟩):=by kernel_rfl
 rw[hh]at e5
 have hc:W.cell? ⟨0,0,none⟩=some (.iface 162 (.agg #[.pointer (some ⟨7,30,none⟩)])):=by simpa using World.var?_cell gErr e5 0
 exact⟨hc,World.block_lt_of_cell? W _ hc⟩
def renU:Go.Shelf.Ren:=⟨fun n=>n,fun | 5=>5 | 119=>189 | 138=>191 | 139=>192 | n=>n,fun | 3=>1 | 4=>2 | n=>n⟩
theorem u8t:U8Types Tryz.prog renU:={t5:=by kernel_rfl,t119:=by kernel_rfl,t138:=by kernel_rfl,t139:=by kernel_rfl}
theorem u8x:U8Extra Tryz.prog renU:={n3:=by kernel_rfl,n4:=by kernel_rfl,y3:=by kernel_rfl,y4:=by kernel_rfl,c5:=by kernel_rfl,c119:=by kernel_rfl,c138:=by kernel_rfl}
theorem caseX:CaseExtra Tryz.prog Tryz.lays159_ren:=⟨by kernel_rfl,by kernel_rfl,by kernel_rfl,by kernel_rfl,by kernel_rfl,by kernel_rfl⟩
def plainN : List (String × DataW Unit) := [("unicode/utf8.acceptRanges", Rows.laid_unicode_utf8_acceptRanges), ("unicode.asciiFold", Rows.laid_unicode_asciiFold), ("unicode.caseOrbit", Rows.laid_unicode_caseOrbit), ("unicode.CaseRanges", Rows.laid_unicode_CaseRanges), ("unicode/utf8.first", Rows.laid_unicode_utf8_first)]
theorem filtN:(laidN.filter fun x=>x.2.handleName?.isNone)=plainN:=rfl
def foldZ:List Int:=match(Rows.laid_unicode_asciiFold:DataW Unit)with
 | .agg l=>l.map fun | .lit (.int _ z)=>z | _=>0
 | _=> []
theorem foldD:(Rows.laid_unicode_asciiFold:DataW Unit)=Lib.tabData .u16 foldZ:=by kernel_rfl
theorem af_of {W : World} (h : Lib.VarReads Tryz.prog W "unicode.asciiFold" Rows.laid_unicode_asciiFold) : AF W := by
 obtain⟨g,t,cs,fuel,p,hg,hty,hvar,hd⟩:=h
 obtain rfl := Option.some.inj ((show Tryz.prog.globalNamed "unicode.asciiFold" = some 5 by kernel_rfl).symm.trans hg)
 obtain rfl:=Option.some.inj ((show(Tryz.prog.globals[5]?).map (·.type)=some 283 by kernel_rfl).symm.trans hty)
 rw[foldD]at hd
 have hcs:=Lib.cells_of_tab (show Tryz.prog.underlying 283=some (.array 128 282) by kernel_rfl) (show Tryz.prog.underlying 282=some (.int .u16) by kernel_rfl) (by kernel_rfl) (by kernel_rfl) hd
 have k:∀c z,foldZ[c]? =some z→W.cell? ⟨5,c,none⟩=some (.int .u16 z):=fun c z hz=>by
  have e:=World.var?_cell hg hvar c
  rw[e,←Array.getElem?_toList,hcs,List.getElem?_map,hz];rfl
 exact⟨k 120 88 (by kernel_rfl),k 88 120 (by kernel_rfl),k 109 77 (by kernel_rfl),k 77 109 (by kernel_rfl),k 108 76 (by kernel_rfl),k 76 108 (by kernel_rfl)⟩
theorem env_of {W:World} (h:laidMetH Tryz.prog laidN W) (hs:W.ShapedOpen Tryz.prog):EN W:=by
 have h':laidMet Tryz.prog (laidN.filter fun x=>x.2.handleName?.isNone) W:=h.1
 rw[filtN]at h'
 have h1 := Lib.laidMet.reads h' (n := "unicode.CaseRanges") (d := Rows.laid_unicode_CaseRanges) (.tail _ (.tail _ (.tail _ (.head _))))
 have h3 := Lib.laidMet.reads h' (n := "unicode/utf8.first") (d := Rows.laid_unicode_utf8_first) (.tail _ (.tail _ (.tail _ (.tail _ (.head _)))))
 have h4 := Lib.laidMet.reads h' (n := "unicode/utf8.acceptRanges") (d := Rows.laid_unicode_utf8_acceptRanges) (.head _)
 have h5 := Lib.laidMet.reads h' (n := "unicode.asciiFold") (d := Rows.laid_unicode_asciiFold) (.tail _ (.head _))
 have e1:Rows.laid_unicode_CaseRanges=Lib.caseData:=Pinned.caseRanges_eq
 have e3:(Rows.laid_unicode_utf8_first:DataW Unit)=Lib.firstData:=Pinned.utf8First_eq
 have e4:(Rows.laid_unicode_utf8_acceptRanges:DataW Unit)=Lib.acceptData:=by kernel_rfl
 rw[e1]at h1
 rw[e3]at h3
 rw[e4]at h4
 exact⟨utf8Tabs_of_readsT u8t u8x h3 h4,cell_of_shapedOpen_int (P:=Tryz.prog) (g:=3) (t:=3) (zero:= #[.int .i64 0]) hs (of_decide_eq_true (by kernel_rfl)) (by kernel_rfl) rfl (by kernel_rfl) (by kernel_rfl) Tryz.underlying3,caseVar_of_reads {Tryz.lays159 with} Tryz.lays159.t206 caseX h1,af_of h5⟩
noncomputable def w0N (os:Os):World:=
 {World.holding Tryz.prog os ⟨#[],#[],[]⟩with heap:=(World.holding Tryz.prog os ⟨#[],#[],[]⟩).heap.modify 0 fun
   | .cells _ t frozen=> .cells #[.iface 162 (.agg #[.pointer (some ⟨7,30,none⟩)])] t frozen
   | o=>o}
noncomputable def laidWorld (os:Os):World:=(w0N os).layVars Tryz.prog plainN
theorem laid_met (os:Os) (args:Array Value):laidMetH Tryz.prog laidN ((laidWorld os).forCall (fun _ _=>0) ⟨#[],args,[]⟩).memory:=by
 have e1:(plainN.filter fun x=>(plainN.map (·.1)).contains x.1)=plainN:=List.filter_eq_self.2 fun x hx=>List.contains_iff_mem.2 (List.mem_map.2 ⟨x,hx,rfl⟩)
 have e2:(plainN.filter fun x=> !(plainN.map (·.1)).contains x.1)= []:=List.filter_eq_nil_iff.2 fun x hx=>by rw[List.contains_iff_mem.2 (List.mem_map.2 ⟨x,hx,rfl⟩)];simp
 have h:laidMet Tryz.prog plainN (laidWorld os):=laidMet_layVars (w0:=w0N os) (plainN.map (·.1)) [] (by rw[e1];rfl) (by rw[e1];kernel_rfl) (by rw[e1];kernel_rfl) (by rw[e2];exact LaidIn.none)
 exact laidMetH_of_parts3 (fuel:=8) (by rw[filtN];exact h.of_heap (by simp[World.memory,World.forCall,Input.heap])) (by kernel_rfl) (by kernel_rfl)
theorem laidOutP:laidOutB Tryz.prog=true:=by kernel_rfl
theorem rowedP:mapsRowed Tryz.prog=true:=by kernel_rfl
theorem slicesP:∀t e,t< Tryz.prog.types.size→Tryz.prog.underlying t=some (.slice e)→0< Tryz.prog.cellsOf e:=slices_full_of _ (by kernel_rfl)
theorem trodAll_later {H:Type} {enc:TypeId×Value→H} {W W':World} {base:Nat} {sp:Nat→Bool} {held:Bool} (hB:∀p:MemPlace,p.block< W.heap.size→W.sameAt W' p):∀{ts:List TypeId} {vs:List Value} {ds:List (DataW H)} {ps:List MemPlace},
  DataW.TrodAll enc Tryz.prog W base sp held ts vs ds ps→DataW.TrodAll enc Tryz.prog W' base sp held ts vs ds ps
 | [],[],[],_,h=>h
 | _::_,_::_,_::_,_,⟨p,q,⟨n,h1⟩,h2,e⟩=>⟨p,q,⟨n,DataW.trod_carry n _ _ _ h1 fun x hx=>hB x (DataW.trod_lt n _ _ _ h1 x hx)⟩,trodAll_later hB h2,e⟩
theorem ext_same {W W':World} (h:Ext W W') (p:MemPlace) (hp:p.block< W.heap.size):W.sameAt W' p:=by
 have hb:=Below.block h p.block hp
 cases p with
 | cell b o=>exact World.cell?_of_block (a:=⟨b,o,none⟩) hb
 | map b=>exact hb
theorem slice_arg {W:World} {t e:TypeId} {v u:Value} (ht:Tryz.prog.underlying t=some (.slice e)) (hval:Value.okWide Tryz.prog W .any 0 t v) (h:v.cells.toList= [u]):v=u:=by
 unfold Value.okWide at hval
 rw[ht]at hval
 cases v with
 | agg cs=>unfold Cell.okWide at hval;rw[ht]at hval;unfold Cell.ok at hval;rw[ht]at hval;exact hval.elim
 | tuple cs=>unfold Cell.okWide at hval;rw[ht]at hval;unfold Cell.ok at hval;rw[ht]at hval;exact hval.elim
 | _=>simp[Value.cells]at h;exact h
end Go.Proofs.YtcfibjiikhnfhaaGreatDoor
