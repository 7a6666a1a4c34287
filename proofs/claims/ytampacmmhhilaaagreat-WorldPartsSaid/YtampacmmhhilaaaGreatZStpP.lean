/- Each access is applied to one row of words: plain. -/
import Derived.Test.YtampacmmhhilaaaGreatBq35

set_option linter.all false
namespace Go.Proofs.YtampacmmhhilaaaGreat
inductive zyr (ws:List Int):Acc->List Int->Prop
 | load (c a:Int) (h:0<=a/\a < (ws.length:Int)):zyr ws ⟨c,0,a,ws.getD a.toNat 0,0,true⟩ ws
 | store (c a x:Int) (h:0<=a/\a < (ws.length:Int)):zyr ws ⟨c,1,a,ws.getD a.toNat 0,x,true⟩ (ws.set a.toNat x)
 | yes (c a x:Int) (h:0<=a/\a < (ws.length:Int)):zyr ws ⟨c,2,a,ws.getD a.toNat 0,x,true⟩ (ws.set a.toNat x)
 | no (c a x:Int) (h:0<=a/\a < (ws.length:Int)):zyr ws ⟨c,2,a,ws.getD a.toNat 0,x,false⟩ ws
theorem yca {c:Int} {m m':Mem} (h:Acts c m m'):zyr m.ws m'.la m'.ws:=by
 cases h with
 | load h=> exact .load _ _ h
 | store h hx=> exact .store _ _ _ h
 | @swap a y x h hx=>
  unfold Mem.swap
  dsimp only
  by_cases e:m.get a=y
  ·rw [decide_eq_true e,if_pos e];exact .yes _ _ _ h
  ·rw [decide_eq_false e,if_neg e];exact .no _ _ _ h
inductive Shp (x:Ch) (ws:List Int) (lg:List Acc):Int->List Int->List Acc->Prop
 | start (hk:x.kind=1) (h:0<=x.client/\x.client < (ws.length:Int)):Shp x ws lg 0 (ws.set x.client.toNat (za8 1 0)) lg
 | kill (hk:x.kind=4) (h:0<=x.client/\x.client < (ws.length:Int)):Shp x ws lg 0 (ws.set x.client.toNat (za8 2 0)) lg
 | bad {e:Int} (h:e≠0):Shp x ws lg e ws lg
 | none (h1:x.kind≠1) (h4:x.kind≠4):Shp x ws lg 0 ws lg
 | acc {a:Acc} {ws':List Int} (h1:x.kind≠1) (h4:x.kind≠4) (ha:zyr ws a ws'):Shp x ws lg 0 ws' (lg ++ [a])
theorem yf1 {s:Sh} {d:Wd} {n:Nat} (h:wdOk s d n) (x:Ch):Shp x d.m.ws d.lg (d.act s x).2 (d.act s x).1.m.ws (d.act s x).1.lg:=by
 have hm:=h.fi.may
 have hb:=zar.1 hm
 unfold Wd.act
 split
 ·exact .bad (show (1:Int)≠0 by decide)
 ·rename_i hbad
  unfold Ch.bad at hbad
  have hcr:0<=x.client/\x.client < s.c:=by omega
  have hst:=(h.fi.status hcr).2
  split
  ·rename_i hk
   unfold Wd.begin
   split
   ·exact .start hk hst
   ·exact .bad (show (5:Int)≠0 by decide)
  ·rename_i hk1
   split
   ·exact .bad (show (2:Int)≠0 by decide)
   ·rename_i k hk
    have hkl:=h.kl _ _ hk
    split
    ·rename_i hk3
     unfold Wd.step
     rcases zkh hkl.1 h.fi h.fit with ⟨hj,e⟩ | ⟨j,hj,ha,hok,he⟩
     ·rw [e]
      dsimp only
      rw [if_neg (by omega)]
      exact .bad (show (2:Int)≠0 by decide)
     ·have hst:=ha.st
      rw [if_pos (by omega),he]
      exact .acc hk1 (by omega) (yca ha)
    ·split
     ·rename_i hk3 hk2
      unfold Wd.ask
      dsimp only
      by_cases e:(k.invoke s x.op).2.2=0
      ·rw [e];exact .none hk1 (by omega)
      ·exact .bad e
     ·rename_i hk3 hk2
      exact .kill (by omega) hst
def Wd.acts (s:Sh) (d:Wd) (l:List Ch):Wd:=l.foldl (fun d c=> (d.act s c).1) d
theorem zm0 {s:Sh} {d:Wd} {l:List Ch} {i:Nat} (h:i < l.length):d.acts s (l.take (i + 1))=((d.acts s (l.take i)).act s l[i]).1:=by
 unfold Wd.acts
 rw [List.take_succ,List.foldl_append,List.getElem?_eq_getElem h]
 rfl
theorem zv6 {s:Sh} {d:Wd} {n:Nat} (h:wdOk s d n) (l:List Ch):wdOk s (d.acts s l) (n + l.length):=by
 induction l generalizing d n with
 | nil=> exact h
 | cons x l ih=>
  have h1:=ih (zeo h x)
  rw [show n + 1 + l.length=n + (x::l).length by simp;omega] at h1
  exact h1
theorem ycf {s:Sh} (hm:mayB s.p s.c s.m=true) (l:List Ch) (i:Nat) (hi:i<=l.length):wdOk s ((zde s).acts s (l.take i)) i:=by
 have:=zv6 (zl9 hm) (l.take i)
 rw [List.length_take,Nat.min_eq_left hi,Nat.zero_add] at this
 exact this
theorem yan (l:List Ch):∀ (j:Nat) (h:j < l.length) (k:Nat),k < 6->(l.flatMap Ch.cells)[j * 6 + k]?=(l[j]).cells[k]?:=by
 induction l with
 | nil=> intro j h;simp at h
 | cons a l ih=>
  intro j h k hk
  have ha:a.cells.length=6:=rfl
  rw [List.flatMap_cons]
  cases j with
  | zero=> rw [Nat.zero_mul,Nat.zero_add,List.getElem?_append_left (by omega)];rfl
  | succ j=>
   rw [List.getElem?_append_right (by omega),ha,show (j + 1) * 6 + k - 6=j * 6 + k by omega]
   exact ih j (by simpa using h) k hk
theorem acGet (l:List Acc) (a:Acc) (k:Nat) (hk:k < 6):((l ++ [a]).flatMap fun e=> #[Value.int .i64 e.c,Value.int .i64 e.k,Value.int .i64 e.a,Value.int .u64 e.was,Value.int .u64 e.put,Value.bool e.ok].toList)[l.length * 6 + k]?= [Value.int .i64 a.c,Value.int .i64 a.k,Value.int .i64 a.a,Value.int .u64 a.was,Value.int .u64 a.put,Value.bool a.ok][k]?:=by
 have hl:(l.flatMap fun e:Acc=> #[Value.int .i64 e.c,Value.int .i64 e.k,Value.int .i64 e.a,Value.int .u64 e.was,Value.int .u64 e.put,Value.bool e.ok].toList).length=l.length * 6:=by
  induction l with
  | nil=> rfl
  | cons b l ih=> rw [List.flatMap_cons,List.length_append,ih];simp;omega
 rw [List.flatMap_append,List.getElem?_append_right (by omega),hl,Nat.add_sub_cancel_left]
 simp
end Go.Proofs.YtampacmmhhilaaaGreat
