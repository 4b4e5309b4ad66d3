/- Statements: which are well-formed, and their words. No program is named here. -/
import Derived.Test.YtgepbohjmgaojaaGreatDoorU11
set_option linter.all false
namespace Go.Proofs.YtgepbohjmgaojaaGreatDoor
open Go.RowKit
def Qx6(seen:List ByteArray):List ByteArray→Bool
 |[]=>true
 |s::l=>!(seen.any fun x=>x.toList==s.toList)&&Qx6 (seen++[s]) l
def Qv6(l:List ByteArray):Bool:=decide (l.length≤8)&&l.all Qqo&&Qx6 [] l
def Jya(l:List Ex):Bool:=decide (l.length≤1)&&Qjc l
def Qv7(q:Qu):Bool:=Qju q.frm&&decide (q.items.length≤8)&&(q.star==decide (q.items.length=0))&&Qjc q.items&&Jya q.whr
def Jzy(l:List Qx4):Bool:=l.all (fun s=>Qqo s.col&&Qzn s.ex)&&Qx6 [] (l.map Qx4.col)
def Jyb(l:List (List Ex)):Bool:=decide (l.length≤8)&&l.all fun r=>decide (1≤r.length)&&decide (r.length≤6)&&Qjc r
def Qzc{α:Type}(l:List α):Bool:=decide (l.length=0)
def Qzh(a:Qzq):Bool:=
 if a.kind=1 then Qqo a.table&&Qzc a.sets&&Qzc a.whr&&Qq0 a.text&&Jyb a.rows&&(if a.rows.length=0 then decide (a.query.length=1)&&a.query.all Qv7 else Qzc a.query)
 else if a.kind=2 then Qqo a.table&&Qzc a.rows&&Qzc a.query&&Qq0 a.text&&decide (1≤a.sets.length)&&decide (a.sets.length≤8)&&Jzy a.sets&&Jya a.whr
 else if a.kind=3 then Qqo a.table&&Qzc a.rows&&Qzc a.query&&Qzc a.sets&&Qq0 a.text&&Jya a.whr
 else if a.kind=4 then Qq0 a.table&&Qzc a.rows&&Qzc a.query&&Qzc a.sets&&Qzc a.whr&&Qj2 a.text
 else if a.kind=5 then Qq0 a.table&&Qzc a.rows&&Qzc a.query&&Qzc a.whr&&Qq0 a.text&&decide (a.sets.length=1)&&Jzy a.sets
 else false
def Jx5(r:Qyf):Bool:=Qqo r.table&&Qqo r.col&&!decide (r.low=-9223372036854775808)&&!decide (r.high=-9223372036854775808)
def Jxd(t:Qks)(k:Int):Bool:=if k=4 then true else if k=5 then t.before&&t.each&&!decide (t.event=3) else !t.before
def Qyg(t:Qks):Bool:=
 Qqo t.name&&Qqo t.table&&decide (1≤t.event)&&decide (t.event≤3)&&(Qzc t.ofs||decide (t.event=2))&&Qv6 t.ofs&&Qv6 t.prec&&Qv6 t.foll&&
  decide (t.rank.length≤1)&&(Qzc t.rank||!t.before)&&t.rank.all Jx5&&Jya t.cond&&decide (1≤t.acts.length)&&decide (t.acts.length≤4)&&t.acts.all (fun a=>Qzh a&&Jxd t a.kind)
def Ykm(t:Qks):Bool:=Qq0 t.name&&Qq0 t.table&&!t.before&&decide (t.event=0)&&!t.each&&Qzc t.ofs&&Qzc t.prec&&Qzc t.foll&&Qzc t.rank&&Qzc t.cond&&Qzc t.acts
def Yyp(q:Qu):Bool:=!q.star&&Qzc q.items&&Qq0 q.frm&&Qzc q.whr
def Yyq(a:Qzq):Bool:=decide (a.kind=0)&&Qq0 a.table&&Qzc a.rows&&Qzc a.query&&Qzc a.sets&&Qzc a.whr&&Qq0 a.text
def Qwb:ByteArray:=bs [68,69,76,69,84,69]
def Qxh:ByteArray:=bs [73,78,83,69,82,84]
def Qyh:ByteArray:=bs [73,78,84,79]
def Qzr:ByteArray:=bs [86,65,76,85,69,83]
def Qvo:ByteArray:=bs [85,80,68,65,84,69]
def Jzr:ByteArray:=bs [83,69,84]
def Jkt:ByteArray:=bs [65,66,79,82,84]
def Jyc:ByteArray:=bs [78,69,87]
def kCREATE:ByteArray:=bs [67,82,69,65,84,69]
def Qkf:ByteArray:=bs [84,65,66,76,69]
def Qzl:ByteArray:=bs [84,82,73,71,71,69,82]
def Qvw:ByteArray:=bs [68,82,79,80]
def Jjv:ByteArray:=bs [80,82,73,77,65,82,89]
def Uki:ByteArray:=bs [75,69,89]
def Yzn:ByteArray:=bs [65,70,84,69,82]
def Jv1:ByteArray:=bs [66,69,70,79,82,69]
def Uyd:ByteArray:=bs [82,79,87]
def Jqs:ByteArray:=bs [83,84,65,84,69,77,69,78,84]
def kOF:ByteArray:=bs [79,70]
def kON:ByteArray:=bs [79,78]
def Jyd:ByteArray:=bs [70,79,82]
def Jjw:ByteArray:=bs [69,65,67,72]
def Qva:ByteArray:=bs [80,82,69,67,69,68,69,83]
def Qwi:ByteArray:=bs [70,79,76,76,79,87,83]
def Jx6:ByteArray:=bs [82,65,78,75]
def kTO:ByteArray:=bs [84,79]
def Yq5:ByteArray:=bs [87,72,69,78]
def Jqt:ByteArray:=bs [66,69,71,73,78]
def Jye:ByteArray:=bs [69,78,68]
def Qj3:ByteArray:=bs [44]
def Qkg:ByteArray:=bs [59]
def kEq:ByteArray:=bs [61]
def Jvu(t:Int):ByteArray:=bs (if t=1 then[73,78,84] else if t=2 then[66,79,79,76] else[84,69,88,84])
def evS(e:Int):ByteArray:=if e=1 then Qxh else if e=2 then Qvo else Qwb
def Qqw:List (List ByteArray)→List ByteArray
 |[]=>[]
 |[a]=>a
 |a::l=>a++Qj3::Qqw l
def Qj4(k:ByteArray):List ByteArray→List ByteArray
 |[]=>[]
 |s::l=>k::s::Qj4 Qj3 l
def Jxe(n:Int):List ByteArray:=if n<0 then[Jqq,bs (Lib.itoa (-n))] else[bs (Lib.itoa n)]
def Jzz(q:Qu):List ByteArray:=Qzp::q.frm::Qjd (Qzd q.whr)
def Qxw(q:Qu):List ByteArray:=Qjv::((if q.star then[Qya] else Qqw (Qzd q.items))++Jzz q)
def Jqe(s:Qx4):List ByteArray:=s.col::kEq::Qqm s.ex
def Jqf(l:List Qx4):List ByteArray:=Qqw (l.map Jqe)
def Qz3(k:ByteArray):List (List Ex)→List ByteArray
 |[]=>[]
 |r::l=>k::Qq7::(Qqw (Qzd r)++Qjq::Qz3 Qj3 l)
def Qqv(a:Qzq):List ByteArray:=
 if a.kind=1 then Qxh::Qyh::a.table::((a.query.map Qxw).flatten++Qz3 Qzr a.rows)
 else if a.kind=2 then Qvo::a.table::Jzr::(Jqf a.sets++Qjd (Qzd a.whr))
 else if a.kind=3 then Qwb::Qzp::a.table::Qjd (Qzd a.whr)
 else if a.kind=4 then[Jkt,bs (Qzt ⟨3,0,a.text⟩)]
 else Jzr::Jyc::Qwq::Jqf a.sets
def Qj8(c:Col):List ByteArray:=c.name::Jvu c.type::(if c.key then[Jjv,Uki] else if c.notNull then[Jxa,Qys] else[])
def Jyf(s:Sch):List ByteArray:=kCREATE::Qkf::s.name::Qq7::(Qqw (s.cols.map Qj8)++[Qjq])
def Qyi(r:Qyf):List ByteArray:=Jx6::r.table::Qwq::r.col::Qzp::(Jxe r.low++kTO::Jxe r.high)
def Qvx(e:Ex):List ByteArray:=Yq5::Qq7::(Qqm e++[Qjq])
def Qkw(t:Qks):List ByteArray:=
 kCREATE::Qzl::t.name::(if t.before then Jv1 else Yzn)::evS t.event::(Qj4 kOF t.ofs++kON::t.table::Jyd::Jjw::(if t.each then Uyd else Jqs)::(Qj4 Qva t.prec++(Qj4 Qwi t.foll++
  ((t.rank.map Qyi).flatten++((t.cond.map Qvx).flatten++Jqt::((t.acts.map fun a=>Qqv a++[Qkg]).flatten++[Jye]))))))
def Qwj(s:Qvu):List ByteArray:=
 if s.kind=1 then Jyf s.sch else if s.kind=2 then[Qvw,Qkf,s.name] else if s.kind=3 then Qkw s.trg else if s.kind=4 then[Qvw,Qzl,s.name] else if s.kind=5 then Qxw s.qry else Qqv s.act
end Go.Proofs.YtgepbohjmgaojaaGreatDoor
