/-
 Laws drawn from elder texts. Helper lemmas;no statement of the seat is proved here.
-/
import Derived.Test.YtngmgjodcnknoaaGreatDoorU1
import Derived.BigQuiet
import Derived.Deep.QuietTactic
import Derived.Deep.WholeRow
import Derived.IntWalk
import Derived.LaidEql
import Derived.Laws.AppendOwnNone
import Derived.Laws.Cover3
import Derived.Laws.IdiomStrings
import Derived.Laws.OwnMore
import Derived.Laws.Rows
import Derived.Laws.StructEq
import Derived.Laws.Tables
import Derived.Lib.AppendZeros
import Derived.Lib.SlTrimSet
import Derived.LoopTactic
import Derived.RowKitTokens
import Derived.Stop.Asserts
namespace Go.Proofs.YtngmgjodcnknoaaGreatDoor
open Go.RowKit
set_option maxHeartbeats 32000000
set_option maxRecDepth 100000
set_option linter.unusedVariables false
set_option linter.unusedSimpArgs false
deriving instance DecidableEq for Attr
deriving instance DecidableEq for Span
def Dr (w w':World):Prop:=∃m,w'=w.drewN m
theorem Dr.refl (w:World):Dr w w:=⟨0,rfl⟩
theorem Dr.ext {w w':World} (h:Dr w w'):Ext w w':=by obtain⟨m,rfl⟩:=h;exact(Ext.refl w).drewN m
theorem Dr.drewN {w w':World} (h:Dr w w') (n:Nat):Dr w (w'.drewN n):=by obtain⟨m,rfl⟩:=h;exact⟨m+n,by rw[World.drewN_drewN]⟩
theorem Dr.trans {a b c:World} (h:Dr a b) (k:Dr b c):Dr a c:=by obtain⟨m,rfl⟩:=h;obtain⟨n,rfl⟩:=k;exact⟨m+n,by rw[World.drewN_drewN]⟩
theorem quiet1 {P:Program} {f:FuncId} {args:Array Value} {w:World} {a n:Nat} {v:Value} (h:Calls P f args (w.drewN (a+n)) fun e w'=>e= .returned v∧Dr (w.drewN (a+n)) w'):Calls P f args (w.drewN (a+n)) fun e w''=>e= .returned v∧∃m,w''=w.drewN (a+m):=
 h.mono fun _ _ ⟨he,m,hm⟩=>⟨he,n+m,by rw[hm,World.drewN_drewN,Nat.add_assoc]⟩
def downV (N:Nat):Value→Nat
 | .int _ k=>(N - k).toNat
 | _=>0
theorem mZ {P:Prop} (h:P:=by simp only[downV];omega):P:=h
theorem drop_one {α:Type} (l:List α) (i:Nat) (h:i< l.length):l.drop i=l[i]::l.drop (i+1):=List.drop_eq_getElem_cons h
theorem eq_two {P:Program} {t t1 t2:TypeId} {x1 x2 y1 y2:Value} {b1 b2:Bool} (s:P.stoodInHeld t=false) (u:P.underlying t=some (.struct (P.fieldsOf t)))
  (f1 f2 : Field) (hf : (P.fieldsOf t).toList = [f1, f2]) (n1 : (f1.name == "_") = false) (n2 : (f2.name == "_") = false) (e1 : f1.type = t1) (e2 : f2.type = t2) (o1 : f1.offset = 0) (o2 : f2.offset = 1)
  (p1:∀a b w,(part t1 #[a,b] 0).run P w= .ok a w) (p2:∀a b w,(part t2 #[a,b] 1).run P w= .ok b w)
  (q1:∀w,(Op.equalIn 9999 t1 x1 y1).run P w= .ok b1 w) (q2:∀w,(Op.equalIn 9999 t2 x2 y2).run P w= .ok b2 w) (w:World):
  (Op.equalIn 10000 t (.agg #[x1,x2]) (.agg #[y1,y2])).run P w= .ok (b1 && b2) w:=by
 have m1 : f1.name ≠ "_" := by simpa using n1
 have m2 : f2.name ≠ "_" := by simpa using n2
 rw[run_equalIn_agg w 9999 t _ _ u s,hf]
 simp only[Op.eqFields,if_pos m1,if_pos m2,e1,e2,o1,o2,Sem.run_bind,p1,p2,Result.andThen_ok,q1,q2]
 cases b1<;> cases b2<;> simp[q2,p2]
theorem neq_attr (a b c d:ByteArray) (w:World):(binOp .neq 68 (.agg #[.string a,.string b]) (.agg #[.string c,.string d])).run Tryz.prog w= .ok (.bool (!((a.toList==c.toList) && (b.toList==d.toList)))) w:=by
 rw[run_neq_struct,eq_two (b1:=(a.toList==c.toList)) (b2:=(b.toList==d.toList)) kB kB (Tryz.prog.fieldsOf 68)[0]! (Tryz.prog.fieldsOf 68)[1]! kB kB kB (t1:=9) (t2:=9) kB kB kB kB (fun _ _ _=>by kernel_rfl) (fun _ _ _=>by kernel_rfl) (fun w=>run_equalIn_string w _ _ _ _ Tryz.underlying9) (fun w=>run_equalIn_string w _ _ _ _ Tryz.underlying9)]
 rfl
theorem grd_attr (x y:Operand) (a b c d:Value) (w:World):(eqGuard .neq 68 x y (.agg #[a,b]) (.agg #[c,d])).run Tryz.prog w= .ok () w:=run_eqGuard_agg w _ _ _ _ _ _ kB
theorem neq_span (a b c d:Int) (w:World):(binOp .neq 89 (.agg #[.int .i64 a,.int .i64 b]) (.agg #[.int .i64 c,.int .i64 d])).run Tryz.prog w= .ok (.bool (!((a==c) && (b==d)))) w:=by
 rw[run_neq_struct,eq_two (b1:=(a==c)) (b2:=(b==d)) kB kB (Tryz.prog.fieldsOf 89)[0]! (Tryz.prog.fieldsOf 89)[1]! kB kB kB (t1:=3) (t2:=3) kB kB kB kB (fun _ _ _=>by kernel_rfl) (fun _ _ _=>by kernel_rfl) (fun w=>run_equalIn_int w _ _ .i64 _ _ _ Tryz.underlying3) (fun w=>run_equalIn_int w _ _ .i64 _ _ _ Tryz.underlying3)]
 rfl
theorem grd_span (x y:Operand) (a b c d:Value) (w:World):(eqGuard .neq 89 x y (.agg #[a,b]) (.agg #[c,d])).run Tryz.prog w= .ok () w:=run_eqGuard_agg w _ _ _ _ _ _ kB
theorem attr_eqE (s:Attr) (w:World):(binOp .neq 68 (.agg #[.string (bs s.n),.string (bs s.v)]) (.agg #[.string (bs s.n),.string (bs s.v)])).run Tryz.prog w= .ok (.bool false) w:=by rw[neq_attr];simp
theorem attr_eqN (s t:Attr) (h:¬s=t) (w:World):(binOp .neq 68 (.agg #[.string (bs s.n),.string (bs s.v)]) (.agg #[.string (bs t.n),.string (bs t.v)])).run Tryz.prog w= .ok (.bool true) w:=by
 rw[neq_attr,bs_eqv,bs_eqv]
 have:((s.n==t.n) && (s.v==t.v))=false:=by
  rw[Bool.eq_false_iff];intro e
  simp only[Bool.and_eq_true,beq_iff_eq]at e
  apply h;cases s;cases t;simp_all
 rw[this];rfl
theorem span_eqE (s:Span) (w:World):(binOp .neq 89 (.agg #[.int .i64 s.a,.int .i64 s.b]) (.agg #[.int .i64 s.a,.int .i64 s.b])).run Tryz.prog w= .ok (.bool false) w:=by rw[neq_span];simp
theorem span_eqN (s t:Span) (h:¬s=t) (w:World):(binOp .neq 89 (.agg #[.int .i64 s.a,.int .i64 s.b]) (.agg #[.int .i64 t.a,.int .i64 t.b])).run Tryz.prog w= .ok (.bool true) w:=by
 rw[neq_span]
 have:((s.a==t.a) && (s.b==t.b))=false:=by
  rw[Bool.eq_false_iff];intro e
  simp only[Bool.and_eq_true,beq_iff_eq]at e
  apply h;cases s;cases t;simp_all
 rw[this];rfl
def textsS:List Bytes→List Bytes→Bool
 | [],[]=>true
 | a::x,b::y=>if a=b then textsS x y else false
 | _,_=>false
theorem textsS_ne:∀x y:List Bytes,x.length≠y.length→textsS x y=false
 | [],[],h=>absurd rfl h
 | [],_::_,_=>rfl
 | _::_,[],_=>rfl
 | a::x,b::y,h=>by
  unfold textsS
  split
  ·
   exact textsS_ne x y kJ
  ·
   rfl
theorem textsS_iff:∀x y:List Bytes,textsS x y=true↔x=y
 | [],[]=>by simp[textsS]
 | [],_::_=>by simp[textsS]
 | _::_,[]=>by simp[textsS]
 | a::x,b::y=>by
  unfold textsS
  split
  ·
   rename_i h;rw[textsS_iff x y,h];simp
  ·
   rename_i h;simp[h]
theorem texts_q (p q:Nat→Prop) (x y:List Bytes) (v u:Value) (w:World) (h:Rep w p v (strsD x)) (k:Rep w q u (strsD y)):
  Calls Tryz.prog 96 #[v,u] w fun e w'=>e= .returned (.bool (textsS x y))∧Dr w w':=by
 obtain⟨a,c,rfl,hc1,hc2⟩:=h.count z_str kA
 obtain⟨b,d,rfl,hd1,hd2⟩:=k.count z_str kA
 obtain⟨R,hR⟩:∃R,textsS x y=R:=⟨_,rfl⟩
 rw[hR]
 have HR:=Lh hR
 by_cases hl:x.length=y.length
 ·
  have hl1:((x.length:Int) !=(y.length:Int))=false:=by rw[hl];exact bne_self_eq_false _
  have HL:=Lh hl
  clear hR hl
  go_enter Tryz.func96,Tryz.ntmps96
  go_wp2_with fail
  go_loopw [5] (fun t wr=>∃i:Nat,t= .int .i64 i∧i≤x.length∧Dr w wr∧Hid (textsS (x.drop i) (y.drop i)=R)) (fun t _=>downV x.length t)
  case atStart=>exact⟨0,rfl,Nat.zero_le _,Dr.refl _,HR⟩
  case round=>
   obtain⟨i,rfl,hi,hX,HI⟩:=hrel
   by_cases hlt:i< x.length
   ·
    have hlI:(i:Int)< (x.length:Int):=by omega
    have hi0:=nZ0 i
    have hly:i< y.length:=by have:=HL.out;omega
    have hyI:(i:Int)< (y.length:Int):=by omega
    obtain⟨g1,o1,rfl,hb1,hp1,hc1⟩:=str_at (h.ext hX.ext) i hlt
    obtain⟨g2,o2,rfl,hb2,hp2,hc2⟩:=str_at (k.ext hX.ext) i hly
    have HS:Hid (textsS (x.drop i) (y.drop i)=if x[i]=y[i]then textsS (x.drop (i+1)) (y.drop (i+1))else false):=Lh (by rw[drop_one x i hlt,drop_one y i hly];rfl)
    obtain⟨s,hs⟩:∃s,x[i]=s:=⟨_,rfl⟩
    obtain⟨t,ht⟩:∃t,y[i]=t:=⟨_,rfl⟩
    rw[hs]at hc1 HS
    rw[ht]at hc2 HS
    have HX:=Lh hX
    clear hs ht hX
    by_cases he:s=t
    ·
     subst he
     have HN:Hid (textsS (x.drop (i+1)) (y.drop (i+1))=R):=Lh kV
     clear HS HI
     go_wp2_with fail
     go_quiet (fail)
     go_wp2_with fail
     go_roundw
     case rel=>exact⟨i+1,by go_num,by omega,HX.out.drewN _,HN⟩
     case measure=>exact mZ
    ·
     have HN:Hid (false=R):=Lh kX
     have e1:((bs s).toList==(bs t).toList)=false:=by rw[bs_toList,bs_toList,beq_eq_false_iff_ne];exact he
     clear HS HI he
     go_wp2_with fail
     go_quiet (fail)
     go_wp2_with fail
     go_ret
     exact⟨ret_bool HN.out,HX.out.drewN _⟩
   ·
    have hlI:¬(i:Int)< (x.length:Int):=by omega
    have HN:Hid (true=R):=Lh (by
     have:=HI.out
     rw[List.drop_of_length_le kA,List.drop_of_length_le (by have:=HL.out;omega)]at this
     exact this)
    clear HI
    go_wp2_with fail
    go_ret
    exact⟨ret_bool HN.out,hX⟩
 ·
  have hl1:((x.length:Int) !=(y.length:Int))=true:=by rw[bne_iff_ne];omega
  have HN:Hid (false=R):=Lh (by rw[←hR,textsS_ne x y hl])
  clear hR hl HR
  go_enter Tryz.func96,Tryz.ntmps96
  go_wp2_with fail
  go_ret
  exact⟨ret_bool HN.out,Dr.refl _⟩
theorem texts_any (p q:Nat→Prop) (x y:List Bytes) (v u:Value) (w:World) (h:Rep w p v (strsD x)) (k:Rep w q u (strsD y)):
  Calls Tryz.prog 96 #[v,u] w fun e w'=>e= .returned (.bool (textsS x y))∧Ext w w':=
 (texts_q p q x y v u w h k).mono fun _ _ ⟨he,hd⟩=>⟨he,hd.ext⟩
def attrsS:List Attr→List Attr→Bool
 | [],[]=>true
 | a::x,b::y=>if a=b then attrsS x y else false
 | _,_=>false
theorem attrsS_ne:∀x y:List Attr,x.length≠y.length→attrsS x y=false
 | [],[],h=>absurd rfl h
 | [],_::_,_=>rfl
 | _::_,[],_=>rfl
 | a::x,b::y,h=>by
  unfold attrsS
  split
  ·
   exact attrsS_ne x y kJ
  ·
   rfl
theorem attrsS_iff:∀x y:List Attr,attrsS x y=true↔x=y
 | [],[]=>by simp[attrsS]
 | [],_::_=>by simp[attrsS]
 | _::_,[]=>by simp[attrsS]
 | a::x,b::y=>by
  unfold attrsS
  split
  ·
   rename_i h;rw[attrsS_iff x y,h];simp
  ·
   rename_i h;simp[h]
theorem attrs_q (p q:Nat→Prop) (x y:List Attr) (v u:Value) (w:World) (h:Rep w p v (attrsD x)) (k:Rep w q u (attrsD y)):
  Calls Tryz.prog 98 #[v,u] w fun e w'=>e= .returned (.bool (attrsS x y))∧Dr w w':=by
 obtain⟨a,c,rfl,hc1,hc2⟩:=h.count z_attr kA
 obtain⟨b,d,rfl,hd1,hd2⟩:=k.count z_attr kA
 obtain⟨R,hR⟩:∃R,attrsS x y=R:=⟨_,rfl⟩
 rw[hR]
 have HR:=Lh hR
 by_cases hl:x.length=y.length
 ·
  have hl1:((x.length:Int) !=(y.length:Int))=false:=by rw[hl];exact bne_self_eq_false _
  have HL:=Lh hl
  clear hR hl
  go_enter Tryz.func98,Tryz.ntmps98
  go_wp2_with fail
  go_loopw [5] (fun t wr=>∃i:Nat,t= .int .i64 i∧i≤x.length∧Dr w wr∧Hid (attrsS (x.drop i) (y.drop i)=R)) (fun t _=>downV x.length t)
  case atStart=>exact⟨0,rfl,Nat.zero_le _,Dr.refl _,HR⟩
  case round=>
   obtain⟨i,rfl,hi,hX,HI⟩:=hrel
   by_cases hlt:i< x.length
   ·
    have hlI:(i:Int)< (x.length:Int):=by omega
    have hi0:=nZ0 i
    have hly:i< y.length:=by have:=HL.out;omega
    have hyI:(i:Int)< (y.length:Int):=by omega
    obtain⟨g1,o1,rfl,hb1,hp1,hc1,hd1⟩:=attr_at (h.ext hX.ext) i hlt
    obtain⟨g2,o2,rfl,hb2,hp2,hc2,hd2⟩:=attr_at (k.ext hX.ext) i hly
    have HS:Hid (attrsS (x.drop i) (y.drop i)=if x[i]=y[i]then attrsS (x.drop (i+1)) (y.drop (i+1))else false):=Lh (by rw[drop_one x i hlt,drop_one y i hly];rfl)
    obtain⟨s,hs⟩:∃s,x[i]=s:=⟨_,rfl⟩
    obtain⟨t,ht⟩:∃t,y[i]=t:=⟨_,rfl⟩
    rw[hs]at hc1 hd1 HS
    rw[ht]at hc2 hd2 HS
    have HX:=Lh hX
    clear hs ht hX
    by_cases he:s=t
    ·
     subst he
     have HN:Hid (attrsS (x.drop (i+1)) (y.drop (i+1))=R):=Lh kV
     have hq:=attr_eqE s
     have hg:=grd_attr
     clear HS HI
     go_wp2_with fail
     go_quiet (fail)
     go_wp2_with fail
     go_roundw
     case rel=>exact⟨i+1,by go_num,by omega,HX.out.drewN _,HN⟩
     case measure=>exact mZ
    ·
     have HN:Hid (false=R):=Lh kX
     have hq:=attr_eqN s t he
     have hg:=grd_attr
     clear HS HI he
     go_wp2_with fail
     go_quiet (fail)
     go_wp2_with fail
     go_ret
     exact⟨ret_bool HN.out,HX.out.drewN _⟩
   ·
    have hlI:¬(i:Int)< (x.length:Int):=by omega
    have HN:Hid (true=R):=Lh (by
     have:=HI.out
     rw[List.drop_of_length_le kA,List.drop_of_length_le (by have:=HL.out;omega)]at this
     exact this)
    clear HI
    go_wp2_with fail
    go_ret
    exact⟨ret_bool HN.out,hX⟩
 ·
  have hl1:((x.length:Int) !=(y.length:Int))=true:=by rw[bne_iff_ne];omega
  have HN:Hid (false=R):=Lh (by rw[←hR,attrsS_ne x y hl])
  clear hR hl HR
  go_enter Tryz.func98,Tryz.ntmps98
  go_wp2_with fail
  go_ret
  exact⟨ret_bool HN.out,Dr.refl _⟩
theorem attrs_any (p q:Nat→Prop) (x y:List Attr) (v u:Value) (w:World) (h:Rep w p v (attrsD x)) (k:Rep w q u (attrsD y)):
  Calls Tryz.prog 98 #[v,u] w fun e w'=>e= .returned (.bool (attrsS x y))∧Ext w w':=
 (attrs_q p q x y v u w h k).mono fun _ _ ⟨he,hd⟩=>⟨he,hd.ext⟩
def spansS:List Span→List Span→Bool
 | [],[]=>true
 | a::x,b::y=>if a=b then spansS x y else false
 | _,_=>false
theorem spansS_ne:∀x y:List Span,x.length≠y.length→spansS x y=false
 | [],[],h=>absurd rfl h
 | [],_::_,_=>rfl
 | _::_,[],_=>rfl
 | a::x,b::y,h=>by
  unfold spansS
  split
  ·
   exact spansS_ne x y kJ
  ·
   rfl
theorem spansS_iff:∀x y:List Span,spansS x y=true↔x=y
 | [],[]=>by simp[spansS]
 | [],_::_=>by simp[spansS]
 | _::_,[]=>by simp[spansS]
 | a::x,b::y=>by
  unfold spansS
  split
  ·
   rename_i h;rw[spansS_iff x y,h];simp
  ·
   rename_i h;simp[h]
theorem spans_q (p q:Nat→Prop) (x y:List Span) (v u:Value) (w:World) (h:Rep w p v (spansD x)) (k:Rep w q u (spansD y)):
  Calls Tryz.prog 15 #[v,u] w fun e w'=>e= .returned (.bool (spansS x y))∧Dr w w':=by
 obtain⟨a,c,rfl,hc1,hc2⟩:=h.count z_span kA
 obtain⟨b,d,rfl,hd1,hd2⟩:=k.count z_span kA
 obtain⟨R,hR⟩:∃R,spansS x y=R:=⟨_,rfl⟩
 rw[hR]
 have HR:=Lh hR
 by_cases hl:x.length=y.length
 ·
  have hl1:((x.length:Int) !=(y.length:Int))=false:=by rw[hl];exact bne_self_eq_false _
  have HL:=Lh hl
  clear hR hl
  go_enter Tryz.func15,Tryz.ntmps15
  go_wp2_with fail
  go_loopw [5] (fun t wr=>∃i:Nat,t= .int .i64 i∧i≤x.length∧Dr w wr∧Hid (spansS (x.drop i) (y.drop i)=R)) (fun t _=>downV x.length t)
  case atStart=>exact⟨0,rfl,Nat.zero_le _,Dr.refl _,HR⟩
  case round=>
   obtain⟨i,rfl,hi,hX,HI⟩:=hrel
   by_cases hlt:i< x.length
   ·
    have hlI:(i:Int)< (x.length:Int):=by omega
    have hi0:=nZ0 i
    have hly:i< y.length:=by have:=HL.out;omega
    have hyI:(i:Int)< (y.length:Int):=by omega
    obtain⟨g1,o1,rfl,hb1,hp1,hc1,hd1⟩:=span_at (h.ext hX.ext) i hlt
    obtain⟨g2,o2,rfl,hb2,hp2,hc2,hd2⟩:=span_at (k.ext hX.ext) i hly
    have HS:Hid (spansS (x.drop i) (y.drop i)=if x[i]=y[i]then spansS (x.drop (i+1)) (y.drop (i+1))else false):=Lh (by rw[drop_one x i hlt,drop_one y i hly];rfl)
    obtain⟨s,hs⟩:∃s,x[i]=s:=⟨_,rfl⟩
    obtain⟨t,ht⟩:∃t,y[i]=t:=⟨_,rfl⟩
    rw[hs]at hc1 hd1 HS
    rw[ht]at hc2 hd2 HS
    have HX:=Lh hX
    clear hs ht hX
    by_cases he:s=t
    ·
     subst he
     have HN:Hid (spansS (x.drop (i+1)) (y.drop (i+1))=R):=Lh kV
     have hq:=span_eqE s
     have hg:=grd_span
     clear HS HI
     go_wp2_with fail
     go_quiet (fail)
     go_wp2_with fail
     go_roundw
     case rel=>exact⟨i+1,by go_num,by omega,HX.out.drewN _,HN⟩
     case measure=>exact mZ
    ·
     have HN:Hid (false=R):=Lh kX
     have hq:=span_eqN s t he
     have hg:=grd_span
     clear HS HI he
     go_wp2_with fail
     go_quiet (fail)
     go_wp2_with fail
     go_ret
     exact⟨ret_bool HN.out,HX.out.drewN _⟩
   ·
    have hlI:¬(i:Int)< (x.length:Int):=by omega
    have HN:Hid (true=R):=Lh (by
     have:=HI.out
     rw[List.drop_of_length_le kA,List.drop_of_length_le (by have:=HL.out;omega)]at this
     exact this)
    clear HI
    go_wp2_with fail
    go_ret
    exact⟨ret_bool HN.out,hX⟩
 ·
  have hl1:((x.length:Int) !=(y.length:Int))=true:=by rw[bne_iff_ne];omega
  have HN:Hid (false=R):=Lh (by rw[←hR,spansS_ne x y hl])
  clear hR hl HR
  go_enter Tryz.func15,Tryz.ntmps15
  go_wp2_with fail
  go_ret
  exact⟨ret_bool HN.out,Dr.refl _⟩
theorem spans_any (p q:Nat→Prop) (x y:List Span) (v u:Value) (w:World) (h:Rep w p v (spansD x)) (k:Rep w q u (spansD y)):
  Calls Tryz.prog 15 #[v,u] w fun e w'=>e= .returned (.bool (spansS x y))∧Ext w w':=
 (spans_q p q x y v u w h k).mono fun _ _ ⟨he,hd⟩=>⟨he,hd.ext⟩
theorem Rep.take {w:World} {p:Nat→Prop} {b off len cap z:Nat} {es:List DV} (h:Rep w p (.slice (some ⟨b,off,none⟩) len cap) (.s z es)) (n:Nat) (hn:n≤len):Rep w p (.slice (some ⟨b,off,none⟩) n cap) (.s z (es.take (n*z))):=by
 obtain⟨_,_,_,e,_,hc,hm,_⟩:=h.slice
 cases e
 have:=h.sub 0 n cap (Nat.zero_le _) hn kA hm
 rw[Nat.zero_mul,Nat.add_zero,List.drop_zero,Nat.sub_zero]at this
 exact this
theorem flat_take {α:Type} (f:α→List DV) (z:Nat) (hz:∀x,(f x).length=z):∀(l:List α) (n:Nat),(l.flatMap f).take (n*z)=(l.take n).flatMap f
 | [],n=>by simp
 | x::r,0=>by simp
 | x::r,n+1=>by rw[List.take_succ_cons,List.flatMap_cons,List.flatMap_cons,List.take_append,hz,List.take_of_length_le (by rw[hz,Nat.add_mul];omega),show(n+1)*z - z=n*z by rw[Nat.add_mul];omega,flat_take f z hz r n]
theorem flat_drop {α:Type} (f:α→List DV) (z:Nat) (hz:∀x,(f x).length=z):∀(l:List α) (n:Nat),(l.flatMap f).drop (n*z)=(l.drop n).flatMap f
 | [],n=>by simp
 | x::r,0=>by simp
 | x::r,n+1=>by rw[List.drop_succ_cons,List.flatMap_cons,List.drop_append,hz,List.drop_of_length_le (by rw[hz,Nat.add_mul];omega),show(n+1)*z - z=n*z by rw[Nat.add_mul];omega,flat_drop f z hz r n,List.nil_append]
def lessB:Bytes→Bytes→Bool
 | [],[]=>false
 | [],_::_=>true
 | _::_,[]=>false
 | a::x,b::y=>if a=b then lessB x y else decide (a.toNat< b.toNat)
theorem lessb_q (x y:Bytes) (w:World) (hx:x.length≤9223372036854775807) (hy:y.length≤9223372036854775807):Calls Tryz.prog 28 #[.string (bs x),.string (bs y)] w fun e w'=>e= .returned (.bool (lessB x y))∧Dr w w':=by
 obtain⟨R,hR⟩:∃R,lessB x y=R:=⟨_,rfl⟩
 rw[hR]
 have HR:=Lh hR
 have hsx:(bs x).size≤9223372036854775807:=by rw[bs_size];exact hx
 have hsy:(bs y).size≤9223372036854775807:=by rw[bs_size];exact hy
 clear hR hx hy
 go_enter Tryz.func28,Tryz.ntmps28
 go_wp2_with fail
 go_loopw [5] (fun t wr=>∃i:Nat,t= .int .i64 i∧i≤(bs x).size∧i≤(bs y).size∧Dr w wr∧Hid (lessB (x.drop i) (y.drop i)=R)) (fun t _=>downV (bs x).size t)
 case atStart=>exact⟨0,rfl,Nat.zero_le _,Nat.zero_le _,Dr.refl _,HR⟩
 case round=>
  obtain⟨i,rfl,hi,hj,hX,HI⟩:=hrel
  have hi0:=nZ0 i
  by_cases hx1:i< (bs x).size
  ·
   have hxI:(i:Int)< ((bs x).size:Int):=by omega
   by_cases hy1:i< (bs y).size
   ·
    have hyI:(i:Int)< ((bs y).size:Int):=by omega
    have hxl:i< x.length:=by rw[bs_size]at hx1;exact hx1
    have hyl:i< y.length:=by rw[bs_size]at hy1;exact hy1
    have HS:Hid (lessB (x.drop i) (y.drop i)=if x[i]=y[i]then lessB (x.drop (i+1)) (y.drop (i+1))else decide (x[i].toNat< y[i].toNat)):=Lh (by rw[drop_one x i hxl,drop_one y i hyl];rfl)
    have HX:=Lh hX
    by_cases he:x[i]=y[i]
    ·
     have HN:Hid (lessB (x.drop (i+1)) (y.drop (i+1))=R):=Lh (by have:=HS.out;rw[if_pos he]at this;rw[←this];exact HI.out)
     have hq:((((bs x)[i]'hx1).toNat:Int) !=(((bs y)[i]'hy1).toNat:Int))=false:=by rw[bs_getE x i hx1,bs_getE y i hy1,he];exact bne_self_eq_false _
     clear HS HI he hX
     go_wp2_with fail
     go_quiet (fail)
     go_wp2_with fail
     go_roundw
     case rel=>exact⟨i+1,by go_num,by omega,by omega,HX.out.drewN _,HN⟩
     case measure=>exact mZ
    ·
     have hq:((((bs x)[i]'hx1).toNat:Int) !=(((bs y)[i]'hy1).toNat:Int))=true:=by
      rw[bs_getE x i hx1,bs_getE y i hy1,bne_iff_ne];intro e;exact he (UInt8.toNat_inj.1 kA)
     have HN:Hid (decide (((bs x)[i]'hx1).toNat< ((bs y)[i]'hy1).toNat)=R):=Lh (by
      have:=HS.out;rw[if_neg he]at this;rw[←HI.out,this,bs_getE x i hx1,bs_getE y i hy1])
     clear HS HI he hX
     go_wp2_with fail
     go_quiet (fail)
     go_wp2_with fail
     go_quiet (fail)
     go_wp2_with fail
     go_ret
     first | exact⟨ret_bool HN.out,HX.out.drewN _⟩ | exact⟨ret_bool HN.out,(HX.out.drewN _).drewN _⟩
   ·
    have hyI:¬(i:Int)< ((bs y).size:Int):=by omega
    have hlI:¬((bs x).size:Int)< ((bs y).size:Int):=by omega
    have HN:Hid (false=R):=Lh (by
     have:=HI.out
     rw[List.drop_of_length_le (l:=y) (by rw[bs_size]at hy1;omega),drop_one x i (by rw[bs_size]at hx1;exact hx1)]at this
     exact this)
    clear HI
    go_wp2_with fail
    go_ret
    exact⟨ret_bool HN.out,hX⟩
  ·
   have hxI:¬(i:Int)< ((bs x).size:Int):=by omega
   obtain⟨B,hB⟩:∃B:Bool,decide ((bs x).size< (bs y).size)=B:=⟨_,rfl⟩
   have HN:Hid (B=R):=Lh (by
    have:=HI.out
    rw[List.drop_of_length_le (l:=x) (by rw[bs_size]at hx1;omega)]at this
    rw[←hB,←this]
    rw[bs_size,bs_size]at*
    by_cases hy1:i< y.length
    ·
     rw[drop_one y i hy1];exact decide_eq_true kA
    ·
     rw[List.drop_of_length_le kA];exact decide_eq_false kA)
   clear HI
   go_wp2_with fail
   go_ret
   exact⟨ret_bool HN.out,hX⟩
theorem lessb_any (x y:Bytes) (w:World) (hx:x.length≤9223372036854775807) (hy:y.length≤9223372036854775807):Calls Tryz.prog 28 #[.string (bs x),.string (bs y)] w fun e w'=>e= .returned (.bool (lessB x y))∧Ext w w':=
 (lessb_q x y w hx hy).mono fun _ _ ⟨he,hd⟩=>⟨he,hd.ext⟩
def stepB (x y:Step):Bool:=if x.n=y.n then textsS x.key y.key else false
theorem stepB_iff (x y:Step):stepB x y=true↔x=y:=by
 unfold stepB
 split
 ·
  rename_i h;rw[textsS_iff];cases x;cases y;simp_all
 ·
  rename_i h;cases x;cases y;simp_all
theorem step_any (p q:Nat→Prop) (x y:Step) (v u:Value) (w:World) (h:Rep w p v (strsD x.key)) (k:Rep w q u (strsD y.key)):
  Calls Tryz.prog 68 #[.agg #[.string (bs x.n),v],.agg #[.string (bs y.n),u]] w fun e w'=>e= .returned (.bool (stepB x y))∧Ext w w':=by
 obtain⟨a,c,rfl,_,_⟩:=h.count z_str kA
 obtain⟨b,d,rfl,_,_⟩:=k.count z_str kA
 by_cases he:x.n=y.n
 ·
  have e1:((bs x.n).toList==(bs y.n).toList)=true:=by rw[bs_toList,bs_toList,he];exact beq_self_eq_true _
  have HS:Hid (stepB x y=textsS x.key y.key):=Lh (by unfold stepB;rw[if_pos he])
  have HC:=Lh fun W (hE:Ext w W)=>texts_any p q x.key y.key _ _ W (h.ext hE) (k.ext hE)
  clear h k he
  go_enter Tryz.func68,Tryz.ntmps68
  go_wp2_with fail
  refine(HC.out _ (((Ext.refl w).alloc _).alloc _)).mono ?_
  rintro e w1 ⟨rfl,hB1⟩
  go_wp2_with fail
  go_ret
  exact⟨ret_bool HS.out.symm,kN⟩
 ·
  have e1:((bs x.n).toList==(bs y.n).toList)=false:=by rw[bs_toList,bs_toList,beq_eq_false_iff_ne];exact he
  have HS:Hid (stepB x y=false):=Lh (by unfold stepB;rw[if_neg he])
  clear h k he
  go_enter Tryz.func68,Tryz.ntmps68
  go_wp2_with fail
  go_ret
  exact⟨ret_bool HS.out.symm,((Ext.refl w).alloc _).alloc _⟩
def findS (path:List Bytes):List Rule→Nat→Int
 | [],_=> -1
 | r::l,i=>if textsS r.path path=true then(i:Int)else findS path l (i+1)
theorem findS_range (path:List Bytes):∀(l:List Rule) (i:Nat),findS path l i= -1∨((i:Int)≤findS path l i∧findS path l i< ((i+l.length:Nat):Int))
 | [],i=>Or.inl rfl
 | r::l,i=>by
  unfold findS
  split
  ·
   right;simp only[List.length_cons];omega
  ·
   rcases findS_range path l (i+1)with h | h
   ·
    exact Or.inl h
   ·
    right;simp only[List.length_cons];omega
theorem find_q (p q:Nat→Prop) (x:List Rule) (path:List Bytes) (v u:Value) (w:World) (h:Rep w p v (rulesD x)) (k:Rep w q u (strsD path)):
  Calls Tryz.prog 97 #[v,u] w fun e w'=>e= .returned (.int .i64 (findS path x 0))∧Dr w w':=by
 obtain⟨a,c,rfl,hc1,hc2⟩:=h.count z_rule kA
 obtain⟨b,d,rfl,_,_⟩:=k.count z_str kA
 obtain⟨R,hR⟩:∃R,findS path x 0=R:=⟨_,rfl⟩
 rw[hR]
 have HR:=Lh hR
 clear hR
 go_enter Tryz.func97,Tryz.ntmps97
 go_wp2_with fail
 go_loopw [5] (fun t wr=>∃i:Nat,t= .int .i64 i∧i≤x.length∧Dr w wr∧Hid (findS path (x.drop i) i=R)) (fun t _=>downV x.length t)
 case atStart=>exact⟨0,rfl,Nat.zero_le _,Dr.refl _,HR⟩
 case round=>
  obtain⟨i,rfl,hi,hX,HI⟩:=hrel
  by_cases hlt:i< x.length
  ·
   have hlI:(i:Int)< (x.length:Int):=by omega
   have hi0:=nZ0 i
   obtain⟨g,o,vp,vk,rfl,hb,hp,hc,hd,hrp,hrk⟩:=rule_at (h.ext hX.ext) i hlt
   have HS:Hid (findS path (x.drop i) i=if textsS x[i].path path=true then(i:Int)else findS path (x.drop (i+1)) (i+1)):=Lh (by rw[drop_one x i hlt];rfl)
   obtain⟨r,hr⟩:∃r,x[i]=r:=⟨_,rfl⟩
   rw[hr]at hrp hrk HS
   obtain⟨a1,c1,rfl,_,_⟩:=hrp.count z_str kA
   have HC:=Lh fun W (hE:Ext wr W)=>texts_q p q r.path path _ _ W (hrp.ext hE) (k.ext (hX.ext.trans hE))
   clear hr hrp hrk
   cases ht:textsS r.path path with
   | true=>
    have HN:Hid ((i:Int)=R):=Lh (by have:=HS.out;rw[ht,if_pos rfl]at this;rw[←this];exact HI.out)
    rw[ht]at HC
    clear HS HI ht
    go_wp2_with fail
    refine(HC.out _ (Ext.refl _)).mono ?_
    rintro e w1 ⟨rfl,hB1⟩
    go_wp2_with fail
    go_ret
    exact⟨ret_int HN.out,hX.trans hB1⟩
   | false=>
    have HN:Hid (findS path (x.drop (i+1)) (i+1)=R):=Lh (by have:=HS.out;rw[ht,if_neg kD]at this;rw[←this];exact HI.out)
    rw[ht]at HC
    clear HS HI ht
    go_wp2_with fail
    refine(HC.out _ (Ext.refl _)).mono ?_
    rintro e w1 ⟨rfl,hB1⟩
    go_wp2_with fail
    go_roundw
    case rel=>exact⟨i+1,by go_num,by omega,hX.trans hB1,HN⟩
    case measure=>exact mZ
  ·
   have hlI:¬(i:Int)< (x.length:Int):=by omega
   have HN:Hid ((-1:Int)=R):=Lh (by
    have:=HI.out
    rw[List.drop_of_length_le kA]at this
    exact this)
   clear HI
   go_wp2_with fail
   go_ret
   exact⟨ret_int HN.out,hX⟩
def aboveS (path:List Bytes) (l:List Rule):Bool:=l.any fun r=>decide (path.length< r.path.length) && textsS (r.path.take path.length) path
def frontS (l:List Rule) (path:List Bytes):Bool:= !aboveS path l && decide (0≤findS path l 0)
theorem above_step (path:List Bytes) (r:Rule) (l:List Rule):aboveS path (r::l)=((decide (path.length< r.path.length) && textsS (r.path.take path.length) path) || aboveS path l):=by unfold aboveS;rw[List.any_cons]
theorem front_q (p q:Nat→Prop) (x:List Rule) (path:List Bytes) (v u:Value) (w:World) (h:Rep w p v (rulesD x)) (k:Rep w q u (strsD path)):
  Calls Tryz.prog 64 #[v,u] w fun e w'=>e= .returned (.bool (frontS x path))∧Dr w w':=by
 obtain⟨a,c,rfl,hc1,hc2⟩:=h.count z_rule kA
 obtain⟨b,d,rfl,hd1,hd2⟩:=k.count z_str kA
 obtain⟨R,hR⟩:∃R,frontS x path=R:=⟨_,rfl⟩
 rw[hR]
 have HR:=Lh hR
 obtain⟨F,hF⟩:∃F,findS path x 0=F:=⟨_,rfl⟩
 have HFC:=Lh fun W (hE:Ext w W)=>find_q p q x path _ _ W (h.ext hE) (k.ext hE)
 rw[hF]at HFC
 have HF:=Lh hF
 clear hR hF
 go_enter Tryz.func64,Tryz.ntmps64
 go_wp2_with fail
 go_loopw [5] (fun t wr=>∃i:Nat,t= .int .i64 i∧i≤x.length∧Dr w wr∧Hid ((!aboveS path (x.drop i) && decide (0≤F))=R)) (fun t _=>downV x.length t)
 case atStart=>exact⟨0,rfl,Nat.zero_le _,Dr.refl _,Lh (by rw[←HF.out];exact HR.out)⟩
 case round=>
  obtain⟨i,rfl,hi,hX,HI⟩:=hrel
  by_cases hlt:i< x.length
  ·
   have hlI:(i:Int)< (x.length:Int):=by omega
   have hi0:=nZ0 i
   obtain⟨g,o,vp,vk,rfl,hb,hp,hc,hd,hrp,hrk⟩:=rule_at (h.ext hX.ext) i hlt
   have HS:Hid (aboveS path (x.drop i)=((decide (path.length< x[i].path.length) && textsS (x[i].path.take path.length) path) || aboveS path (x.drop (i+1)))):=Lh (by rw[drop_one x i hlt,above_step])
   obtain⟨r,hr⟩:∃r,x[i]=r:=⟨_,rfl⟩
   rw[hr]at hrp hrk HS
   obtain⟨a1,c1,rfl,hq1,hq2⟩:=hrp.count z_str kA
   by_cases hlen:path.length< r.path.length
   ·
    have hlenI:(path.length:Int)< (r.path.length:Int):=by omega
    obtain⟨g2,o2,rfl,_⟩:=str_at hrp 0 kA
    have hsub:Rep wr p (.slice (some ⟨g2,o2,none⟩) path.length c1) (strsD (r.path.take path.length)):=by
     have:=hrp.take path.length kA
     rw[flat_take _ 1 z_str]at this;exact this
    have HC:=Lh fun W (hE:Ext wr W)=>texts_q p q (r.path.take path.length) path _ _ W (hsub.ext hE) (k.ext (hX.ext.trans hE))
    have HSz:=Lh hsub
    clear hr hrp hrk hsub
    cases ht:textsS (r.path.take path.length) path with
    | true=>
     have HN:Hid (false=R):=Lh (by have:=HS.out;rw[ht,decide_eq_true hlen]at this;rw[←HI.out,this];rfl)
     rw[ht]at HC
     clear HS HI ht
     go_wp2_with fail
     refine(HC.out _ (Ext.refl _)).mono ?_
     rintro e w1 ⟨rfl,hB1⟩
     go_wp2_with fail
     go_ret
     exact⟨ret_bool HN.out,hX.trans hB1⟩
    | false=>
     have HN:Hid ((!aboveS path (x.drop (i+1)) && decide (0≤F))=R):=Lh (by have:=HS.out;rw[ht,Bool.and_false,Bool.false_or]at this;rw[←HI.out,this])
     rw[ht]at HC
     clear HS HI ht
     go_wp2_with fail
     refine(HC.out _ (Ext.refl _)).mono ?_
     rintro e w1 ⟨rfl,hB1⟩
     go_wp2_with fail
     go_roundw
     case rel=>exact⟨i+1,by go_num,by omega,hX.trans hB1,HN⟩
     case measure=>exact mZ
   ·
    have hlenI:¬(path.length:Int)< (r.path.length:Int):=by omega
    have HN:Hid ((!aboveS path (x.drop (i+1)) && decide (0≤F))=R):=Lh (by have:=HS.out;rw[decide_eq_false hlen,Bool.false_and,Bool.false_or]at this;rw[←HI.out,this])
    clear HS HI hrp hrk hr
    go_wp2_with fail
    go_roundw
    case rel=>exact⟨i+1,by go_num,by omega,hX,HN⟩
    case measure=>exact mZ
  ·
   have hlI:¬(i:Int)< (x.length:Int):=by omega
   have HN:Hid (decide (0≤F)=R):=Lh (by
    have:=HI.out
    rw[List.drop_of_length_le kA]at this
    exact this)
   clear HI
   go_wp2_with fail
   refine(HFC.out _ hX.ext).mono ?_
   rintro e w1 ⟨rfl,hB1⟩
   go_wp2_with fail
   go_ret
   exact⟨ret_bool HN.out,hX.trans hB1⟩
def lessK:List Bytes→List Bytes→Bool
 | [],[]=>false
 | [],_::_=>true
 | _::_,[]=>false
 | a::x,b::y=>if a=b then lessK x y else lessB a b
theorem lessk_q (p q:Nat→Prop) (x y:List Bytes) (v u:Value) (w:World) (h:Rep w p v (strsD x)) (k:Rep w q u (strsD y)):
  Calls Tryz.prog 101 #[v,u] w fun e w'=>e= .returned (.bool (lessK x y))∧Dr w w':=by
 obtain⟨a,c,rfl,hc1,hc2⟩:=h.count z_str kA
 obtain⟨b,d,rfl,hd1,hd2⟩:=k.count z_str kA
 obtain⟨R,hR⟩:∃R,lessK x y=R:=⟨_,rfl⟩
 rw[hR]
 have HR:=Lh hR
 have HLX:=Lh (strs_len h)
 have HLY:=Lh (strs_len k)
 clear hR
 go_enter Tryz.func101,Tryz.ntmps101
 go_wp2_with fail
 go_loopw [5] (fun t wr=>∃i:Nat,t= .int .i64 i∧i≤x.length∧i≤y.length∧Dr w wr∧Hid (lessK (x.drop i) (y.drop i)=R)) (fun t _=>downV x.length t)
 case atStart=>exact⟨0,rfl,Nat.zero_le _,Nat.zero_le _,Dr.refl _,HR⟩
 case round=>
  obtain⟨i,rfl,hi,hj,hX,HI⟩:=hrel
  have hi0:=nZ0 i
  by_cases hx1:i< x.length
  ·
   have hxI:(i:Int)< (x.length:Int):=by omega
   by_cases hy1:i< y.length
   ·
    have hyI:(i:Int)< (y.length:Int):=by omega
    obtain⟨g1,o1,rfl,hb1,hp1,hcc1⟩:=str_at (h.ext hX.ext) i hx1
    obtain⟨g2,o2,rfl,hb2,hp2,hcc2⟩:=str_at (k.ext hX.ext) i hy1
    have HS:Hid (lessK (x.drop i) (y.drop i)=if x[i]=y[i]then lessK (x.drop (i+1)) (y.drop (i+1))else lessB x[i] y[i]):=Lh (by rw[drop_one x i hx1,drop_one y i hy1];rfl)
    have l1:=HLX.out i hx1
    have l2:=HLY.out i hy1
    obtain⟨s,hs⟩:∃s,x[i]=s:=⟨_,rfl⟩
    obtain⟨t,ht⟩:∃t,y[i]=t:=⟨_,rfl⟩
    rw[hs]at hcc1 HS l1
    rw[ht]at hcc2 HS l2
    have HX:=Lh hX
    have HLB:=Lh fun W=>lessb_q s t W l1 l2
    clear hs ht hX l1 l2
    by_cases he:s=t
    ·
     subst he
     have HN:Hid (lessK (x.drop (i+1)) (y.drop (i+1))=R):=Lh kV
     clear HS HI
     go_wp2_with fail
     go_quiet (fail)
     go_wp2_with fail
     go_roundw
     case rel=>exact⟨i+1,by go_num,by omega,by omega,HX.out.drewN _,HN⟩
     case measure=>exact mZ
    ·
     have e1:((bs s).toList==(bs t).toList)=false:=by rw[bs_toList,bs_toList,beq_eq_false_iff_ne];exact he
     have HN:Hid (lessB s t=R):=Lh kX
     clear HS HI he
     go_wp2_with fail
     go_quiet (fail)
     go_wp2_with fail
     go_quiet ((go_at_call 28;first | exact quiet1 (HLB.out _) | exact quiet0 (HLB.out _)))
     go_wp2_with fail
     go_ret
     first | exact⟨ret_bool HN.out,HX.out.drewN _⟩ | exact⟨ret_bool HN.out,(HX.out.drewN _).drewN _⟩
   ·
    have hyI:¬(i:Int)< (y.length:Int):=by omega
    have hlI:¬(x.length:Int)< (y.length:Int):=by omega
    have HN:Hid (false=R):=Lh (by
     have:=HI.out
     rw[List.drop_of_length_le (l:=y) kA,drop_one x i hx1]at this
     exact this)
    clear HI
    go_wp2_with fail
    go_ret
    exact⟨ret_bool HN.out,hX⟩
  ·
   have hxI:¬(i:Int)< (x.length:Int):=by omega
   obtain⟨B,hB⟩:∃B:Bool,decide (x.length< y.length)=B:=⟨_,rfl⟩
   have HN:Hid (B=R):=Lh (by
    have:=HI.out
    rw[List.drop_of_length_le (l:=x) kA]at this
    rw[←hB,←this]
    by_cases hy1:i< y.length
    ·
     rw[drop_one y i hy1];exact decide_eq_true kA
    ·
     rw[List.drop_of_length_le kA];exact decide_eq_false kA)
   clear HI
   go_wp2_with fail
   go_ret
   exact⟨ret_bool HN.out,hX⟩
def aheadB (x y:Step):Bool:=if x.n=y.n then lessK x.key y.key else lessB x.n y.n
theorem ahead_any (p q:Nat→Prop) (x y:Step) (v u:Value) (w:World) (h:Rep w p v (strsD x.key)) (k:Rep w q u (strsD y.key)) (hx:x.n.length≤9223372036854775807) (hy:y.n.length≤9223372036854775807):
  Calls Tryz.prog 67 #[.agg #[.string (bs x.n),v],.agg #[.string (bs y.n),u]] w fun e w'=>e= .returned (.bool (aheadB x y))∧Ext w w':=by
 obtain⟨a,c,rfl,_,_⟩:=h.count z_str kA
 obtain⟨b,d,rfl,_,_⟩:=k.count z_str kA
 have HLB:=Lh fun W=>lessb_any x.n y.n W hx hy
 by_cases he:x.n=y.n
 ·
  have e1:((bs x.n).toList==(bs y.n).toList)=true:=by rw[bs_toList,bs_toList,he];exact beq_self_eq_true _
  have HS:Hid (aheadB x y=lessK x.key y.key):=Lh (by unfold aheadB;rw[if_pos he])
  have HC:=Lh fun W (hE:Ext w W)=>lessk_q p q x.key y.key _ _ W (h.ext hE) (k.ext hE)
  clear h k he hx hy
  go_enter Tryz.func67,Tryz.ntmps67
  go_wp2_with fail
  refine(HC.out _ (((Ext.refl w).alloc _).alloc _)).mono ?_
  rintro e w1 ⟨rfl,hB0⟩
  have hB1:=hB0.ext
  go_wp2_with fail
  go_ret
  exact⟨ret_bool HS.out.symm,kN⟩
 ·
  have e1:((bs x.n).toList==(bs y.n).toList)=false:=by rw[bs_toList,bs_toList,beq_eq_false_iff_ne];exact he
  have HS:Hid (aheadB x y=lessB x.n y.n):=Lh (by unfold aheadB;rw[if_neg he])
  clear h k he hx hy
  go_enter Tryz.func67,Tryz.ntmps67
  go_wp2_with fail
  refine(HLB.out _).mono ?_
  rintro e w1 ⟨rfl,hB1⟩
  go_wp2_with fail
  go_ret
  exact⟨ret_bool HS.out.symm,kN⟩
mutual
def sameN:Node→Node→Bool
 | .mk k n t la ks,.mk k' n' t' la' ks'=>decide (k=k') && decide (n=n') && decide (t=t') && attrsS la la' && sameL ks ks'
def sameL:List Node→List Node→Bool
 | [],[]=>true
 | a::x,b::y=>sameN a b && sameL x y
 | _,_=>false
end
theorem sameL_ne:∀x y:List Node,x.length≠y.length→sameL x y=false
 | [],[],h=>absurd rfl h
 | [],_::_,_=>by rw[sameL];all_goals simp
 | _::_,[],_=>by rw[sameL];all_goals simp
 | a::x,b::y,h=>by rw[sameL,sameL_ne x y kJ,Bool.and_false]
mutual
def nsz:Node→Nat
 | .mk _ _ _ _ ks=>1+nszL ks
def nszL:List Node→Nat
 | []=>0
 | n::r=>nsz n+nszL r
end
theorem nszL_get:∀(l:List Node) (i:Nat) (h:i< l.length),nsz l[i]≤nszL l
 | [],i,h=>absurd h (Nat.not_lt_zero _)
 | n::r,0,h=>by rw[nszL];exact Nat.le_add_right _ _
 | n::r,i+1,h=>by
  have:=nszL_get r i kJ
  rw[nszL];simp only[List.getElem_cons_succ];omega
theorem kid_lt (n:Node) (i:Nat) (h:i< n.kids.length):nsz n.kids[i]< nsz n:=by
 cases n with
 | mk k nm t la ks=>
  have:=nszL_get ks i h
  show nsz ks[i]< _
  rw[nsz];omega
mutual
theorem sameN_iff:∀a b:Node,sameN a b=true↔a=b
 | .mk k n t la ks,.mk k' n' t' la' ks'=>by
  rw[sameN]
  simp only[Bool.and_eq_true,decide_eq_true_iff,attrsS_iff,sameL_iff ks ks',Node.mk.injEq]
  constructor
  ·
   rintro⟨⟨⟨⟨a,b⟩,c⟩,d⟩,e⟩;exact⟨a,b,c,d,e⟩
  ·
   rintro⟨a,b,c,d,e⟩;exact⟨⟨⟨⟨a,b⟩,c⟩,d⟩,e⟩
theorem sameL_iff:∀x y:List Node,sameL x y=true↔x=y
 | [],[]=>by simp[sameL]
 | [],_::_=>by simp[sameL]
 | _::_,[]=>by simp[sameL]
 | a::x,b::y=>by rw[sameL,Bool.and_eq_true,sameN_iff a b,sameL_iff x y,List.cons.injEq]
end
theorem same_any:∀(m:Nat) (a b:Node) (p q:Nat→Prop) (va vk ua uk:Value) (w:World),nsz a≤m→Rep w p va (attrsD a.attrs)→Rep w p vk (nodesD a.kids)→Rep w q ua (attrsD b.attrs)→Rep w q uk (nodesD b.kids)→
  Calls Tryz.prog 136 #[.agg #[.int .i64 a.kind,.string (bs a.name),.string (bs a.text),va,vk],.agg #[.int .i64 b.kind,.string (bs b.name),.string (bs b.text),ua,uk]] w fun e w'=>e= .returned (.bool (sameN a b))∧Ext w w':=by
 intro m
 induction m with
 | zero=>intro a b p q va vk ua uk w hm;cases a;rw[nsz]at hm;omega
 | succ m ih=>
  intro a b p q va vk ua uk w hm hva hvk hua huk
  have hkid:=fun i h=>kid_lt a i h
  obtain⟨k,nm,tx,la,ks⟩:=a
  obtain⟨k',nm',tx',la',ks'⟩:=b
  simp only[Node.kind,Node.name,Node.text,Node.attrs,Node.kids]at*
  obtain⟨ba,ca,rfl,_,_⟩:=hva.count z_attr kA
  obtain⟨bk,c,rfl,hc1,hc2⟩:=hvk.count z_node kA
  obtain⟨da,ea,rfl,_,_⟩:=hua.count z_attr kA
  obtain⟨dk,d,rfl,hd1,hd2⟩:=huk.count z_node kA
  obtain⟨R,hR⟩:∃R,sameN (.mk k nm tx la ks) (.mk k' nm' tx' la' ks')=R:=⟨_,rfl⟩
  rw[hR]
  rw[sameN]at hR
  have HM:Hid (∀(i:Nat) (h:i< ks.length),nsz ks[i]≤m):=Lh (fun i h=>by have:=hkid i h;omega)
  clear hkid hm
  have IH:=Lh ih
  clear ih
  have HAT:=Lh fun W (hE:Ext w W)=>attrs_any p q la la' _ _ W (hva.ext hE) (hua.ext hE)
  by_cases h1:k=k'
  ·
   subst h1
   have f1:(k !=k)=false:=bne_self_eq_false _
   by_cases h2:nm=nm'
   ·
    subst h2
    by_cases h3:tx=tx'
    ·
     subst h3
     cases h4:attrsS la la' with
     | false=>
      rw[h4]at HAT
      have HN:Hid (false=R):=Lh (by rw[←hR,h4];simp)
      clear hR h4
      go_enter Tryz.func136,Tryz.ntmps136
      go_wp2_with fail
      refine(HAT.out _ (((Ext.refl w).alloc _).alloc _)).mono ?_
      rintro e w1 ⟨rfl,hB1⟩
      go_wp2_with fail
      go_ret
      exact⟨ret_bool HN.out,(((Ext.refl w).alloc _).alloc _).trans hB1⟩
     | true=>
      rw[h4]at HAT
      by_cases h5:ks.length=ks'.length
      ·
       have f5:((ks.length:Int) !=(ks'.length:Int))=false:=by rw[h5];exact bne_self_eq_false _
       have HL:=Lh h5
       have HR:Hid (sameL ks ks'=R):=Lh (by rw[←hR,h4];simp)
       clear hR h4 h5
       go_enter Tryz.func136,Tryz.ntmps136
       go_wp2_with fail
       refine(HAT.out _ (((Ext.refl w).alloc _).alloc _)).mono ?_
       rintro e w1 ⟨rfl,hB1⟩
       have hZ1:=hB1.size
       simp at hZ1
       have l0:w.heap.size< w1.heap.size:=by omega
       have l1:w.heap.size+1< w1.heap.size:=by omega
       have c4:w1.cell? ⟨w.heap.size,4,none⟩=some (.slice bk ks.length c):=hB1.keep kM (by simp[go_sem])
       have d4:w1.cell? ⟨w.heap.size+1,4,none⟩=some (.slice dk ks'.length d):=hB1.keep kI (by simp[go_sem])
       have hE1:Ext w w1:=(((Ext.refl w).alloc _).alloc _).trans hB1
       clear hB1 hZ1 HAT
       go_wp2_with fail
       go_loopw [5] (fun t wr=>∃i:Nat,t= .int .i64 i∧i≤ks.length∧Ext w1 wr∧Hid (sameL (ks.drop i) (ks'.drop i)=R)) (fun t _=>downV ks.length t)
       case atStart=>exact⟨0,rfl,Nat.zero_le _,Ext.refl _,HR⟩
       case round=>
        obtain⟨i,rfl,hi,hX,HI⟩:=hrel
        have c4r:=hX.keep l0 c4
        have d4r:=hX.keep l1 d4
        have hXz:=hX.size
        by_cases hlt:i< ks.length
        ·
         have hlI:(i:Int)< (ks.length:Int):=by omega
         have hi0:=nZ0 i
         have hly:i< ks'.length:=by have:=HL.out;omega
         have hyI:(i:Int)< (ks'.length:Int):=by omega
         have hEr:=hE1.trans hX
         obtain⟨g1,o1,va1,vk1,rfl,lb1,_,e10,e11,e12,e13,e14,hra1,hrk1⟩:=node_at (hvk.ext hEr) i hlt
         obtain⟨g2,o2,va2,vk2,rfl,lb2,_,e20,e21,e22,e23,e24,hra2,hrk2⟩:=node_at (huk.ext hEr) i hly
         have HS:Hid (sameL (ks.drop i) (ks'.drop i)=(sameN ks[i] ks'[i] && sameL (ks.drop (i+1)) (ks'.drop (i+1)))):=Lh (by rw[drop_one ks i hlt,drop_one ks' i hly,sameL])
         have hmi:=HM.out i hlt
         obtain⟨x,hx⟩:∃x,ks[i]=x:=⟨_,rfl⟩
         obtain⟨y,hy⟩:∃y,ks'[i]=y:=⟨_,rfl⟩
         rw[hx]at e10 e11 e12 hra1 hrk1 HS hmi
         rw[hy]at e20 e21 e22 hra2 hrk2 HS
         obtain⟨B,hB⟩:∃B,sameN x y=B:=⟨_,rfl⟩
         have HC:=Lh fun W (hE:Ext wr W)=>IH.out x y p q va1 vk1 va2 vk2 W hmi (hra1.ext hE) (hrk1.ext hE) (hra2.ext hE) (hrk2.ext hE)
         rw[hB]at HC HS
         have m0:w.heap.size< wr.heap.size:=by omega
         have m1:w.heap.size+1< wr.heap.size:=by omega
         obtain⟨wz,hwz⟩:∃wz,wz=wr:=⟨_,rfl⟩
         subst hwz
         clear hx hy hB hmi hra1 hra2 hrk1 hrk2
         go_wp2_with fail
         refine rg_begin (S:=Sx wz) kB (Sx.begin _) ?_
         have hS:Sx wz (World.drew wz):=(Sx.begin _)
         refine gT 0 49 (.pointer (some ⟨w.heap.size,4,none⟩)) hS ?_
         simp only[Act.put,sA,sZ,sS]
         refine gT 1 50 (.slice (some ⟨g1,o1,none⟩) ks.length c) hS ?_ (hv:=fun w' hs=>by(have h0:=hs.cell m0 c4r;go_simp))
         simp only[Act.put,sA,sZ,sS]
         refine gT 2 51 (.int .i64 i) hS ?_
         simp only[Act.put,sA,sZ,sS]
         refine gT 3 52 (.pointer (some ⟨g1,o1+i*5,none⟩)) hS ?_
         simp only[Act.put,sA,sZ,sS]
         refine gT 4 53 (.agg #[.int .i64 x.kind,.string (bs x.name),.string (bs x.text),va1,vk1]) hS ?_ (hv:=fun w' hs=>by(have h0:=hs.cell lb1 e10;have h1:=hs.cell lb1 e11;have h2:=hs.cell lb1 e12;have h3:=hs.cell lb1 e13;have h4:=hs.cell lb1 e14;go_simp))
         simp only[Act.put,sA,sZ,sS]
         refine gT 5 54 (.pointer (some ⟨w.heap.size+1,4,none⟩)) hS ?_
         simp only[Act.put,sA,sZ,sS]
         refine gT 6 55 (.slice (some ⟨g2,o2,none⟩) ks'.length d) hS ?_ (hv:=fun w' hs=>by(have h0:=hs.cell m1 d4r;go_simp))
         simp only[Act.put,sA,sZ,sS]
         refine gT 7 56 (.int .i64 i) hS ?_
         simp only[Act.put,sA,sZ,sS]
         refine gT 8 57 (.pointer (some ⟨g2,o2+i*5,none⟩)) hS ?_
         simp only[Act.put,sA,sZ,sS]
         refine gT 9 58 (.agg #[.int .i64 y.kind,.string (bs y.name),.string (bs y.text),va2,vk2]) hS ?_ (hv:=fun w' hs=>by(have h0:=hs.cell lb2 e20;have h1:=hs.cell lb2 e21;have h2:=hs.cell lb2 e22;have h3:=hs.cell lb2 e23;have h4:=hs.cell lb2 e24;go_simp))
         simp only[Act.put,sA,sZ,sS]
         refine rg_call 10 (some 59) 136 #[.agg #[.int .i64 x.kind,.string (bs x.name),.string (bs x.text),va1,vk1],.agg #[.int .i64 y.kind,.string (bs y.name),.string (bs y.text),va2,vk2]] rfl rfl kB (by rfl) (fun w'=>by first | rfl | go_simp) (R:=fun v w'=>v= .bool B∧Ext (World.drew wz) w') ?_ ?_
         ·
          refine(HC.out (World.drew wz) hS).mono ?_
          rintro e w' ⟨rfl,h⟩
          exact⟨_,rfl,rfl,h⟩
         rintro _ wr1 ⟨rfl,hBr1⟩
         have hS1:=hS.ext hBr1
         refine⟨hS1,?_⟩
         simp only[Act.put,sA,sZ,sS]
         refine gT 11 60 (.bool (!B)) hS1 ?_
         simp only[Act.put,sA,sZ,sS]
         refine rg_done kB ?_
         cases B with
         | true=>
          have HN:Hid (sameL (ks.drop (i+1)) (ks'.drop (i+1))=R):=Lh (by rw[←HI.out,HS.out];rfl)
          clear HS HI
          go_wp2_with fail
          go_roundw
          case rel=>exact⟨i+1,by go_num,by omega,hX.trans hS1,HN⟩
          case measure=>exact mZ
         | false=>
          have HN:Hid (false=R):=Lh (by rw[←HI.out,HS.out];rfl)
          clear HS HI
          go_wp2_with fail
          go_ret
          exact⟨ret_bool HN.out,hEr.trans hS1⟩
        ·
         have hlI:¬(i:Int)< (ks.length:Int):=by omega
         have HN:Hid (true=R):=Lh (by
          have:=HI.out
          rw[List.drop_of_length_le kA,List.drop_of_length_le (by have:=HL.out;omega)]at this
          exact this)
         clear HI
         go_wp2_with fail
         go_ret
         exact⟨ret_bool HN.out,hE1.trans hX⟩
      ·
       have f5:((ks.length:Int) !=(ks'.length:Int))=true:=by rw[bne_iff_ne];omega
       have HN:Hid (false=R):=Lh (by rw[←hR,sameL_ne ks ks' h5];simp)
       clear hR h4 h5
       go_enter Tryz.func136,Tryz.ntmps136
       go_wp2_with fail
       refine(HAT.out _ (((Ext.refl w).alloc _).alloc _)).mono ?_
       rintro e w1 ⟨rfl,hB1⟩
       have hZ1:=hB1.size
       simp at hZ1
       have l0:w.heap.size< w1.heap.size:=by omega
       have l1:w.heap.size+1< w1.heap.size:=by omega
       have c4:w1.cell? ⟨w.heap.size,4,none⟩=some (.slice bk ks.length c):=hB1.keep kM (by simp[go_sem])
       have d4:w1.cell? ⟨w.heap.size+1,4,none⟩=some (.slice dk ks'.length d):=hB1.keep kI (by simp[go_sem])
       have hE1:Ext w w1:=(((Ext.refl w).alloc _).alloc _).trans hB1
       clear hB1 hZ1 HAT
       go_wp2_with fail
       go_ret
       exact⟨ret_bool HN.out,hE1⟩
    ·
     have f3:((bs tx).toList==(bs tx').toList)=false:=by rw[bs_toList,bs_toList,beq_eq_false_iff_ne];exact h3
     have HN:Hid (false=R):=Lh (by rw[←hR,decide_eq_false h3];simp)
     clear hR h3
     go_enter Tryz.func136,Tryz.ntmps136
     go_wp2_with fail
     go_ret
     exact⟨ret_bool HN.out,((Ext.refl w).alloc _).alloc _⟩
   ·
    have f2:((bs nm).toList==(bs nm').toList)=false:=by rw[bs_toList,bs_toList,beq_eq_false_iff_ne];exact h2
    have HN:Hid (false=R):=Lh (by rw[←hR,decide_eq_false h2];simp)
    clear hR h2
    go_enter Tryz.func136,Tryz.ntmps136
    go_wp2_with fail
    go_ret
    exact⟨ret_bool HN.out,((Ext.refl w).alloc _).alloc _⟩
  ·
   have f1:(k !=k')=true:=by rw[bne_iff_ne];exact h1
   have HN:Hid (false=R):=Lh (by rw[←hR,decide_eq_false h1];simp)
   clear hR h1
   go_enter Tryz.func136,Tryz.ntmps136
   go_wp2_with fail
   go_ret
   exact⟨ret_bool HN.out,((Ext.refl w).alloc _).alloc _⟩
theorem attrs_nil (w:World) (p:Nat→Prop):Rep w p (.slice none 0 0) (attrsD []):= .nil 2
theorem nodes_any (p q:Nat→Prop) (x y:List Node) (v u:Value) (w:World) (h:Rep w p v (nodesD x)) (k:Rep w q u (nodesD y)):
  Calls Tryz.prog 99 #[v,u] w fun e w'=>e= .returned (.bool (sameL x y))∧Ext w w':=by
 have HC:=Lh fun W (hE:Ext w W)=>same_any (nsz (.mk 0 [] [] [] x)) (.mk 0 [] [] [] x) (.mk 0 [] [] [] y) p q (.slice none 0 0) v (.slice none 0 0) u W (Nat.le_refl _) (attrs_nil _ _) (h.ext hE) (attrs_nil _ _) (k.ext hE)
 have e:sameN (.mk 0 [] [] [] x) (.mk 0 [] [] [] y)=sameL x y:=by rw[sameN];simp[attrsS]
 rw[e]at HC
 obtain⟨a,c,rfl,_,_⟩:=h.count z_node kA
 obtain⟨b,d,rfl,_,_⟩:=k.count z_node kA
 clear h k e
 go_enter Tryz.func99,Tryz.ntmps99
 go_wp2_with fail
 refine(HC.out _ (Ext.refl _)).mono ?_
 rintro e w1 ⟨rfl,hB1⟩
 go_wp2_with fail
 go_ret
 exact⟨rfl,hB1⟩
def cntA:List Attr→Nat
 | []=>0
 | a::r=>1+a.n.length+a.v.length+cntA r
mutual
def cntN:Node→Nat
 | .mk _ n t la ks=>1+n.length+t.length+cntA la+cntL ks
def cntL:List Node→Nat
 | []=>0
 | n::r=>cntN n+cntL r
end
def smallA (m:Nat):Nat→List Attr→Nat
 | c,[]=>c
 | c,a::r=>if c≤m then smallA m (c+1+a.n.length+a.v.length) r else c
mutual
def smallN (m:Nat):Node→Nat
 | .mk _ n t la ks=>smallL m (smallA m (1+n.length+t.length) la) ks
def smallL (m:Nat):Nat→List Node→Nat
 | c,[]=>c
 | c,n::r=>if c≤m then smallL m (c+smallN m n) r else c
end
theorem smallA_le (m:Nat):∀(l:List Attr) (c:Nat),smallA m c l≤c+cntA l∧c≤smallA m c l∧(smallA m c l≤m→smallA m c l=c+cntA l)
 | [],c=>by simp[smallA,cntA]
 | a::r,c=>by
  unfold smallA cntA
  split
  ·
   have:=smallA_le m r (c+1+a.n.length+a.v.length);omega
  ·
   exact⟨by omega,by omega,fun h=>by omega⟩
mutual
theorem smallN_le (m:Nat):∀n:Node,smallN m n≤cntN n∧(smallN m n≤m→smallN m n=cntN n)
 | .mk k n t la ks=>by
  rw[smallN,cntN]
  have h1:=smallA_le m la (1+n.length+t.length)
  have h2:=smallL_le m ks (smallA m (1+n.length+t.length) la)
  omega
theorem smallL_le (m:Nat):∀(l:List Node) (c:Nat),smallL m c l≤c+cntL l∧c≤smallL m c l∧(smallL m c l≤m→smallL m c l=c+cntL l)
 | [],c=>by simp[smallL,cntL]
 | n::r,c=>by
  rw[smallL,cntL]
  have h1:=smallN_le m n
  have h2:=smallL_le m r (c+smallN m n)
  split
  ·
   omega
  ·
   exact⟨by omega,by omega,fun h=>by omega⟩
end
theorem cntA_get:∀(l:List Attr) (i:Nat) (h:i< l.length),1+l[i].n.length+l[i].v.length+cntA (l.drop (i+1))=cntA (l.drop i)
 | l,i,h=>by rw[drop_one l i h,cntA]
theorem cntL_get (l:List Node) (i:Nat) (h:i< l.length):cntN l[i]+cntL (l.drop (i+1))=cntL (l.drop i):=by rw[drop_one l i h,cntL]
theorem smallA_get (m c:Nat) (l:List Attr) (i:Nat) (h:i< l.length):smallA m c (l.drop i)=if c≤m then smallA m (c+1+l[i].n.length+l[i].v.length) (l.drop (i+1))else c:=by rw[drop_one l i h,smallA]
theorem smallL_get (m c:Nat) (l:List Node) (i:Nat) (h:i< l.length):smallL m c (l.drop i)=if c≤m then smallL m (c+smallN m l[i]) (l.drop (i+1))else c:=by rw[drop_one l i h,smallL]
theorem cntN_pos (n:Node):1≤cntN n:=by cases n;rw[cntN];omega
end Go.Proofs.YtngmgjodcnknoaaGreatDoor
